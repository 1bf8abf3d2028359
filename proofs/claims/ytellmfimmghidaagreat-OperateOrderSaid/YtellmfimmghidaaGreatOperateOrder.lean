/-
  OperateOrder: for any two ints, any two strs and any value, the law returns true: ints, and strs, are in order, and all other two values have none. No condition.
-/
import Derived.Test.YtellmfimmghidaaGreatShownP
import Derived.Test.YtellmfimmghidaaGreatFrame
import Derived.Test.YtellmfimmghidaaGreatLawC
import Derived.Test.YtellmfimmghidaaGreatRegS
import Derived.Test.YtellmfimmghidaaGreatIn16
import Derived.Test.YtellmfimmghidaaGreatLocal
namespace Go.Proofs.YtellmfimmghidaaGreat.operateOrder
set_option linter.unusedSimpArgs false
open Go.ChangeShapes Go.WideShapes Go.ChangeAt Go.RowKit
open Go.ChangeMaps (open_string)
set_option linter.unusedVariables false
theorem ord_self (v : V) : (cmpV (ordRes false true v v) false = .tuple #[.agg #[.int .i64 1, .int .i64 1, .string ⟨#[]⟩], excZ] ∧ v.kind = 2) ∨ (cmpV (ordRes false true v v) false = .tuple #[.agg #[.int .i64 1, .int .i64 1, .string ⟨#[]⟩], excZ] ∧ v.kind = 3) ∨ (cmpV (ordRes false true v v) false = .tuple #[zeroV, excN typeError] ∧ ¬ v.kind = 2 ∧ ¬ v.kind = 3) := by
  unfold ordRes
  by_cases h2 : v.kind = 2
  · refine .inl ⟨?_, h2⟩
    rw [if_pos ⟨h2, h2⟩, show cmpB v.n v.n = 0 by unfold cmpB; rw [if_neg (by omega), if_neg (by omega)]]; rfl
  · by_cases h3 : v.kind = 3
    · refine .inr (.inl ⟨?_, h3⟩)
      rw [if_neg (by simp [h2]), if_pos ⟨h3, h3⟩, (cmpL_eq _ _).2 rfl]; rfl
    · refine .inr (.inr ⟨?_, h2, h3⟩)
      rw [if_neg (by simp [h2]), if_neg (by simp [h3])]; rfl
set_option maxRecDepth 100000 in
set_option maxHeartbeats 12800000 in
theorem walk (w : World) (n0 n1 : Int) (s0 s1 : ByteArray) (v : V) (hn0 : (Lit.int .i64 n0).wf = true) (hn1 : (Lit.int .i64 n1).wf = true) (hs0 : s0.size ≤ maxLen) (hs1 : s1.size ≤ maxLen) :
    Calls Tryz.prog 4 #[.agg #[.int .i64 n0, .int .i64 n1], .agg #[.string s0, .string s1], .agg #[.int .i64 v.kind, .int .i64 v.n, .string v.s]] w fun e W' => e = .returned (.bool true) ∧ Below w.heap.size w W' := by
  obtain ⟨b, hb⟩ : ∃ gx_, (w.heap.size) = gx_ := ⟨_, rfl⟩
  have S := (((Sep.start (Below.refl w.heap.size w)).alloc (.cells #[.int .i64 n0, .int .i64 n1] 26)).alloc (.cells #[.string s0, .string s1] 27)).alloc (.cells #[.int .i64 v.kind, .int .i64 v.n, .string v.s] 29)
  simp only [World.size_alloc, hb] at S
  replace S : Sep w (boxR (b + 1 + 1) (.cells #[.int .i64 v.kind, .int .i64 v.n, .string v.s] 29) :: boxR (b + 1) (.cells #[.string s0, .string s1] 27) :: boxR b (.cells #[.int .i64 n0, .int .i64 n1] 26) :: []) _ := S
  have M0 := Lib.hid (shown_ok S)
  clear S
  go_enter Tryz.func4, Tryz.ntmps4
  go_wp2_with fail
  try simp only [World.size_alloc, hb]
  refine M0.out.mono ?_
  rintro e w1 ⟨rfl, S⟩
  clear M0 hb
  have M := Lib.hid S.new
  clear S
  go_wp2_with fail
  refine M.out.mono ?_
  rintro e w2 ⟨h, rfl, S, -⟩
  clear M
  replace S : Sep w (heapR h ⟨[], 0⟩ :: boxR (b + 1 + 1) (.cells #[.int .i64 v.kind, .int .i64 v.n, .string v.s] 29) :: boxR (b + 1) (.cells #[.string s0, .string s1] 27) :: boxR b (.cells #[.int .i64 n0, .int .i64 n1] 26) :: []) _ := S
  obtain ⟨bA, hbA⟩ : ∃ base, base = heapR h ⟨[], 0⟩ :: boxR (b + 1 + 1) (.cells #[.int .i64 v.kind, .int .i64 v.n, .string v.s] 29) :: boxR (b + 1) (.cells #[.string s0, .string s1] 27) :: boxR b (.cells #[.int .i64 n0, .int .i64 n1] 26) :: [] := ⟨_, rfl⟩
  have HbA := Lib.hid hbA
  have KbA : Hid (∀ W (Q : List Res), Sep w (Q ++ bA) W → W.cell? ⟨b, 0, none⟩ = some (.int .i64 n0) ∧ W.cell? ⟨b, 1, none⟩ = some (.int .i64 n1) ∧ W.cell? ⟨b + 1, 0, none⟩ = some (.string s0) ∧ W.cell? ⟨b + 1, 1, none⟩ = some (.string s1)) := Lib.hid fun W Q T => by
    rw [hbA] at T
    have i0 := T.box (b := b) (o := .cells #[.int .i64 n0, .int .i64 n1] 26) (Q.length + 3) (by rw [List.getElem?_append_right (by omega), Nat.add_sub_cancel_left]; rfl)
    have i1 := T.box (b := b + 1) (o := .cells #[.string s0, .string s1] 27) (Q.length + 2) (by rw [List.getElem?_append_right (by omega), Nat.add_sub_cancel_left]; rfl)
    exact ⟨cellAt i0 0 rfl, cellAt i0 1 rfl, cellAt i1 0 rfl, cellAt i1 1 rfl⟩
  have KN : Hid (∀ W (Q : List Res) (n : Int), Sep w (Q ++ bA) W → Calls Tryz.prog 16 #[.int .i64 n] W fun e W' => e = .returned (.agg #[.int .i64 2, .int .i64 n, .string ⟨#[]⟩]) ∧ Sep w (Q ++ bA) W') := Lib.hid fun W Q n T => by
    exact (lnum_ok W n).mono fun e W' ⟨e1, e2⟩ => ⟨e1, T.later e2⟩
  have KS : Hid (∀ W (Q : List Res) (s : ByteArray), Sep w (Q ++ bA) W → Calls Tryz.prog 17 #[.string s] W fun e W' => e = .returned (.agg #[.int .i64 3, .int .i64 0, .string s]) ∧ Sep w (Q ++ bA) W') := Lib.hid fun W Q s T => by
    exact (lstr_ok W s).mono fun e W' ⟨e1, e2⟩ => ⟨e1, T.later e2⟩
  obtain ⟨k0, hk0⟩ : ∃ k, k = min s0.size 8 := ⟨_, rfl⟩
  have he0 : (if (8 : Int) < (s0.size : Int) then (8 : Int) else (s0.size : Int)) = (k0 : Int) := by rw [hk0]; split <;> omega
  have hl0 : (k0 : Int) ≤ (s0.size : Int) := by omega
  have hm0 : k0 ≤ 8 := by omega
  clear hk0
  obtain ⟨k1, hk1⟩ : ∃ k, k = min s1.size 8 := ⟨_, rfl⟩
  have he1 : (if (8 : Int) < (s1.size : Int) then (8 : Int) else (s1.size : Int)) = (k1 : Int) := by rw [hk1]; split <;> omega
  have hl1 : (k1 : Int) ≤ (s1.size : Int) := by omega
  have hm1 : k1 ≤ 8 := by omega
  clear hk1
  replace S := Lib.hid S
  clear hbA
  go_upto_region 5 with fail
  have S1 : Sep w ([] ++ bA) (w2) := by rw [HbA.out]; exact S.out
  clear S
  refine regionS (E := [emptyR]) (base := bA) (Sep.putE S1) ?_
  clear S1
  refine quietS 0 (hy := fun E Wx hSw => by ((obtain ⟨u0, u1, u2, u3⟩ := KbA.out _ _ hSw); go_simp; exact ⟨rfl, hSw⟩)) (h := ?_)
  simp only [Act.put, List.setIfInBounds_toArray, List.set_cons_zero, List.set_cons_succ]
  refine quietS 1 (hy := fun E Wx hSw => by ((obtain ⟨u0, u1, u2, u3⟩ := KbA.out _ _ hSw); go_simp; exact ⟨rfl, hSw⟩)) (h := ?_)
  simp only [Act.put, List.setIfInBounds_toArray, List.set_cons_zero, List.set_cons_succ]
  refine quietS 2 (hy := fun E Wx hSw => by (go_simp; exact symCall (KN.out _ _ _ hSw))) (h := ?_)
  simp only [Act.put, List.setIfInBounds_toArray, List.set_cons_zero, List.set_cons_succ]
  refine quietS 3 (hy := fun E Wx hSw => by ((obtain ⟨u0, u1, u2, u3⟩ := KbA.out _ _ hSw); go_simp; exact ⟨rfl, hSw⟩)) (h := ?_)
  simp only [Act.put, List.setIfInBounds_toArray, List.set_cons_zero, List.set_cons_succ]
  refine quietS 4 (hy := fun E Wx hSw => by ((obtain ⟨u0, u1, u2, u3⟩ := KbA.out _ _ hSw); go_simp; exact ⟨rfl, hSw⟩)) (h := ?_)
  simp only [Act.put, List.setIfInBounds_toArray, List.set_cons_zero, List.set_cons_succ]
  refine quietS 5 (hy := fun E Wx hSw => by (go_simp; exact symCall (KN.out _ _ _ hSw))) (h := ?_)
  simp only [Act.put, List.setIfInBounds_toArray, List.set_cons_zero, List.set_cons_succ]
  refine quietS 6 (hy := fun E Wx hSw => by (go_simp; exact ⟨rfl, hSw⟩)) (h := ?_)
  simp only [Act.put, List.setIfInBounds_toArray, List.set_cons_zero, List.set_cons_succ]
  refine quietS 7 (hy := fun E Wx hSw => by ((obtain ⟨u0, u1, u2, u3⟩ := KbA.out _ _ hSw); go_simp; exact ⟨rfl, hSw⟩)) (h := ?_)
  simp only [Act.put, List.setIfInBounds_toArray, List.set_cons_zero, List.set_cons_succ]
  refine quietS 8 (hy := fun E Wx hSw => by ((obtain ⟨u0, u1, u2, u3⟩ := KbA.out _ _ hSw); go_simp; exact ⟨rfl, hSw⟩)) (h := ?_)
  simp only [Act.put, List.setIfInBounds_toArray, List.set_cons_zero, List.set_cons_succ]
  refine quietS 9 (hy := fun E Wx hSw => by ((obtain ⟨u0, u1, u2, u3⟩ := KbA.out _ _ hSw); go_simp; exact ⟨rfl, hSw⟩)) (h := ?_)
  simp only [Act.put, List.setIfInBounds_toArray, List.set_cons_zero, List.set_cons_succ]
  refine quietS 10 (hy := fun E Wx hSw => by ((obtain ⟨u0, u1, u2, u3⟩ := KbA.out _ _ hSw); go_simp; exact ⟨rfl, hSw⟩)) (h := ?_)
  simp only [Act.put, List.setIfInBounds_toArray, List.set_cons_zero, List.set_cons_succ]
  refine quietS 11 (hy := fun E Wx hSw => by (go_simp; exact ⟨rfl, hSw⟩)) (h := ?_)
  simp only [Act.put, List.setIfInBounds_toArray, List.set_cons_zero, List.set_cons_succ]
  refine quietS 12 (hy := fun E Wx hSw => by (go_simp; exact ⟨rfl, hSw⟩)) (h := ?_)
  simp only [Act.put, List.setIfInBounds_toArray, List.set_cons_zero, List.set_cons_succ]
  refine quietS 13 (hy := fun E Wx hSw => by ((obtain ⟨u0, u1, u2, u3⟩ := KbA.out _ _ hSw); go_simp; exact ⟨rfl, hSw⟩)) (h := ?_)
  simp only [Act.put, List.setIfInBounds_toArray, List.set_cons_zero, List.set_cons_succ]
  refine quietS 14 (hy := fun E Wx hSw => by (go_simp; exact symCall (KS.out _ _ _ hSw))) (h := ?_)
  simp only [Act.put, List.setIfInBounds_toArray, List.set_cons_zero, List.set_cons_succ]
  refine quietS 15 (hy := fun E Wx hSw => by ((obtain ⟨u0, u1, u2, u3⟩ := KbA.out _ _ hSw); go_simp; exact ⟨rfl, hSw⟩)) (h := ?_)
  simp only [Act.put, List.setIfInBounds_toArray, List.set_cons_zero, List.set_cons_succ]
  refine quietS 16 (hy := fun E Wx hSw => by ((obtain ⟨u0, u1, u2, u3⟩ := KbA.out _ _ hSw); go_simp; exact ⟨rfl, hSw⟩)) (h := ?_)
  simp only [Act.put, List.setIfInBounds_toArray, List.set_cons_zero, List.set_cons_succ]
  refine quietS 17 (hy := fun E Wx hSw => by ((obtain ⟨u0, u1, u2, u3⟩ := KbA.out _ _ hSw); go_simp; exact ⟨rfl, hSw⟩)) (h := ?_)
  simp only [Act.put, List.setIfInBounds_toArray, List.set_cons_zero, List.set_cons_succ]
  refine quietS 18 (hy := fun E Wx hSw => by ((obtain ⟨u0, u1, u2, u3⟩ := KbA.out _ _ hSw); go_simp; exact ⟨rfl, hSw⟩)) (h := ?_)
  simp only [Act.put, List.setIfInBounds_toArray, List.set_cons_zero, List.set_cons_succ]
  refine quietS 19 (hy := fun E Wx hSw => by (go_simp; exact ⟨rfl, hSw⟩)) (h := ?_)
  simp only [Act.put, List.setIfInBounds_toArray, List.set_cons_zero, List.set_cons_succ]
  refine quietS 20 (hy := fun E Wx hSw => by (go_simp; exact ⟨rfl, hSw⟩)) (h := ?_)
  simp only [Act.put, List.setIfInBounds_toArray, List.set_cons_zero, List.set_cons_succ]
  refine quietS 21 (hy := fun E Wx hSw => by ((obtain ⟨u0, u1, u2, u3⟩ := KbA.out _ _ hSw); go_simp; exact ⟨rfl, hSw⟩)) (h := ?_)
  simp only [Act.put, List.setIfInBounds_toArray, List.set_cons_zero, List.set_cons_succ]
  refine quietS 22 (hy := fun E Wx hSw => by (go_simp; exact symCall (KS.out _ _ _ hSw))) (h := ?_)
  simp only [Act.put, List.setIfInBounds_toArray, List.set_cons_zero, List.set_cons_succ]
  refine quietS 23 (hy := fun E Wx hSw => by (go_simp; exact ⟨rfl, hSw⟩)) (h := ?_)
  simp only [Act.put, List.setIfInBounds_toArray, List.set_cons_zero, List.set_cons_succ]
  refine quietS 24 (hy := fun E Wx hSw => by (go_simp; exact ⟨rfl, hSw⟩)) (h := ?_)
  simp only [Act.put, List.setIfInBounds_toArray, List.set_cons_zero, List.set_cons_succ]
  refine readyS [25] ?_
  refine allocS 0 rfl (fun q => .pointer (some ⟨q, 0, none⟩)) (.cells #[.int .i64 0, .int .i64 0, .string ⟨#[]⟩, .int .i64 0, .int .i64 0, .string ⟨#[]⟩, .int .i64 0, .int .i64 0, .string ⟨#[]⟩, .int .i64 0, .int .i64 0, .string ⟨#[]⟩] 36) (h1 := fun Wx => by go_simp) (h2 := fun qL1 => ?_) (hs := nilS)
  simp only [Act.put, List.setIfInBounds_toArray, List.set_cons_zero, List.set_cons_succ]
  try simp only [List.set_cons_zero, List.set_cons_succ]
  refine readyS [26] ?_
  refine detS undef [boxR qL1 (.cells #[.int .i64 2, .int .i64 n0, .string ⟨#[]⟩, .int .i64 2, .int .i64 n1, .string ⟨#[]⟩, .int .i64 3, .int .i64 0, .string (s0.extract 0 k0), .int .i64 3, .int .i64 0, .string (s1.extract 0 k1)] 36)] (h1 := fun Wx hSw => by (have hz := hSw.box (b := qL1) (o := .cells #[.int .i64 0, .int .i64 0, .string ⟨#[]⟩, .int .i64 0, .int .i64 0, .string ⟨#[]⟩, .int .i64 0, .int .i64 0, .string ⟨#[]⟩, .int .i64 0, .int .i64 0, .string ⟨#[]⟩] 36) 0 rfl; have z0 := cellAt hz 0 (v := .int .i64 0) rfl; have y0 := frozenAt hz 0; have z1 := cellAt hz 1 (v := .int .i64 0) rfl; have y1 := frozenAt hz 1; have z2 := cellAt hz 2 (v := .string ⟨#[]⟩) rfl; have y2 := frozenAt hz 2; have z3 := cellAt hz 3 (v := .int .i64 0) rfl; have y3 := frozenAt hz 3; have z4 := cellAt hz 4 (v := .int .i64 0) rfl; have y4 := frozenAt hz 4; have z5 := cellAt hz 5 (v := .string ⟨#[]⟩) rfl; have y5 := frozenAt hz 5; have z6 := cellAt hz 6 (v := .int .i64 0) rfl; have y6 := frozenAt hz 6; have z7 := cellAt hz 7 (v := .int .i64 0) rfl; have y7 := frozenAt hz 7; have z8 := cellAt hz 8 (v := .string ⟨#[]⟩) rfl; have y8 := frozenAt hz 8; have z9 := cellAt hz 9 (v := .int .i64 0) rfl; have y9 := frozenAt hz 9; have z10 := cellAt hz 10 (v := .int .i64 0) rfl; have y10 := frozenAt hz 10; have z11 := cellAt hz 11 (v := .string ⟨#[]⟩) rfl; have y11 := frozenAt hz 11; go_simp; exact ⟨rfl, (Sep.setBox (cs := #[.int .i64 2, .int .i64 n0, .string ⟨#[]⟩, .int .i64 2, .int .i64 n1, .string ⟨#[]⟩, .int .i64 3, .int .i64 0, .string (s0.extract 0 k0), .int .i64 3, .int .i64 0, .string ⟨#[]⟩]) (t := 36) (Sep.setBox (cs := #[.int .i64 2, .int .i64 n0, .string ⟨#[]⟩, .int .i64 2, .int .i64 n1, .string ⟨#[]⟩, .int .i64 3, .int .i64 0, .string (s0.extract 0 k0), .int .i64 3, .int .i64 0, .string ⟨#[]⟩]) (t := 36) (Sep.setBox (cs := #[.int .i64 2, .int .i64 n0, .string ⟨#[]⟩, .int .i64 2, .int .i64 n1, .string ⟨#[]⟩, .int .i64 3, .int .i64 0, .string (s0.extract 0 k0), .int .i64 0, .int .i64 0, .string ⟨#[]⟩]) (t := 36) (Sep.setBox (cs := #[.int .i64 2, .int .i64 n0, .string ⟨#[]⟩, .int .i64 2, .int .i64 n1, .string ⟨#[]⟩, .int .i64 3, .int .i64 0, .string ⟨#[]⟩, .int .i64 0, .int .i64 0, .string ⟨#[]⟩]) (t := 36) (Sep.setBox (cs := #[.int .i64 2, .int .i64 n0, .string ⟨#[]⟩, .int .i64 2, .int .i64 n1, .string ⟨#[]⟩, .int .i64 3, .int .i64 0, .string ⟨#[]⟩, .int .i64 0, .int .i64 0, .string ⟨#[]⟩]) (t := 36) (Sep.setBox (cs := #[.int .i64 2, .int .i64 n0, .string ⟨#[]⟩, .int .i64 2, .int .i64 n1, .string ⟨#[]⟩, .int .i64 0, .int .i64 0, .string ⟨#[]⟩, .int .i64 0, .int .i64 0, .string ⟨#[]⟩]) (t := 36) (Sep.setBox (cs := #[.int .i64 2, .int .i64 n0, .string ⟨#[]⟩, .int .i64 2, .int .i64 n1, .string ⟨#[]⟩, .int .i64 0, .int .i64 0, .string ⟨#[]⟩, .int .i64 0, .int .i64 0, .string ⟨#[]⟩]) (t := 36) (Sep.setBox (cs := #[.int .i64 2, .int .i64 n0, .string ⟨#[]⟩, .int .i64 2, .int .i64 0, .string ⟨#[]⟩, .int .i64 0, .int .i64 0, .string ⟨#[]⟩, .int .i64 0, .int .i64 0, .string ⟨#[]⟩]) (t := 36) (Sep.setBox (cs := #[.int .i64 2, .int .i64 n0, .string ⟨#[]⟩, .int .i64 0, .int .i64 0, .string ⟨#[]⟩, .int .i64 0, .int .i64 0, .string ⟨#[]⟩, .int .i64 0, .int .i64 0, .string ⟨#[]⟩]) (t := 36) (Sep.setBox (cs := #[.int .i64 2, .int .i64 n0, .string ⟨#[]⟩, .int .i64 0, .int .i64 0, .string ⟨#[]⟩, .int .i64 0, .int .i64 0, .string ⟨#[]⟩, .int .i64 0, .int .i64 0, .string ⟨#[]⟩]) (t := 36) (Sep.setBox (cs := #[.int .i64 2, .int .i64 0, .string ⟨#[]⟩, .int .i64 0, .int .i64 0, .string ⟨#[]⟩, .int .i64 0, .int .i64 0, .string ⟨#[]⟩, .int .i64 0, .int .i64 0, .string ⟨#[]⟩]) (t := 36) (Sep.setBox (cs := #[.int .i64 0, .int .i64 0, .string ⟨#[]⟩, .int .i64 0, .int .i64 0, .string ⟨#[]⟩, .int .i64 0, .int .i64 0, .string ⟨#[]⟩, .int .i64 0, .int .i64 0, .string ⟨#[]⟩]) (t := 36) hSw 0 rfl 0 (.int .i64 2)) 0 rfl 1 (.int .i64 n0)) 0 rfl 2 (.string ⟨#[]⟩)) 0 rfl 3 (.int .i64 2)) 0 rfl 4 (.int .i64 n1)) 0 rfl 5 (.string ⟨#[]⟩)) 0 rfl 6 (.int .i64 3)) 0 rfl 7 (.int .i64 0)) 0 rfl 8 (.string (s0.extract 0 k0))) 0 rfl 9 (.int .i64 3)) 0 rfl 10 (.int .i64 0)) 0 rfl 11 (.string (s1.extract 0 k1)))⟩)) (h2 := ?_) (hs := nilS)
  simp only [Act.put, List.setIfInBounds_toArray, List.set_cons_zero, List.set_cons_succ]
  refine doneS (h := fun w3 S => ?_)
  replace S : Sep w (boxR qL1 (.cells #[.int .i64 2, .int .i64 n0, .string ⟨#[]⟩, .int .i64 2, .int .i64 n1, .string ⟨#[]⟩, .int .i64 3, .int .i64 0, .string (s0.extract 0 k0), .int .i64 3, .int .i64 0, .string (s1.extract 0 k1)] 36) :: heapR h ⟨[], 0⟩ :: boxR (b + 1 + 1) (.cells #[.int .i64 v.kind, .int .i64 v.n, .string v.s] 29) :: boxR (b + 1) (.cells #[.string s0, .string s1] 27) :: boxR b (.cells #[.int .i64 n0, .int .i64 n1] 26) :: []) w3 := by rw [HbA.out] at S; exact S
  obtain ⟨X0, hX0⟩ : ∃ X, X = vI n0 hn0 := ⟨_, rfl⟩
  obtain ⟨X1, hX1⟩ : ∃ X, X = vI n1 hn1 := ⟨_, rfl⟩
  have sz0 : (s0.extract 0 k0).size ≤ maxLen := by rw [ByteArray.size_extract]; omega
  have sz1 : (s1.extract 0 k1).size ≤ maxLen := by rw [ByteArray.size_extract]; omega
  obtain ⟨X2, hX2⟩ : ∃ X, X = vS (s0.extract 0 k0) sz0 := ⟨_, rfl⟩
  obtain ⟨X3, hX3⟩ : ∃ X, X = vS (s1.extract 0 k1) sz1 := ⟨_, rfl⟩
  replace S : Sep w (boxR qL1 (.cells #[.int .i64 X0.kind, .int .i64 X0.n, .string X0.s, .int .i64 X1.kind, .int .i64 X1.n, .string X1.s, .int .i64 X2.kind, .int .i64 X2.n, .string X2.s, .int .i64 X3.kind, .int .i64 X3.n, .string X3.s] 36) :: heapR h ⟨[], 0⟩ :: boxR (b + 1 + 1) (.cells #[.int .i64 v.kind, .int .i64 v.n, .string v.s] 29) :: boxR (b + 1) (.cells #[.string s0, .string s1] 27) :: boxR b (.cells #[.int .i64 n0, .int .i64 n1] 26) :: []) w3 := by rw [hX0, hX1, hX2, hX3]; exact S
  have T01 : ∃ bn bs l e g, decide (X0.n < X1.n) = bn ∧ Op.bytesLess X0.s.toList X1.s.toList = bs ∧ Ord5 X0 X1 l e g ∧ ((bn = true ∧ bs = false ∧ l = true ∧ e = false ∧ g = false) ∨ (bn = false ∧ bs = false ∧ l = false ∧ e = true ∧ g = false) ∨ (bn = false ∧ bs = false ∧ l = false ∧ e = false ∧ g = true)) := by
    have be : Op.bytesLess (⟨#[]⟩ : ByteArray).toList (⟨#[]⟩ : ByteArray).toList = false := by rw [ByteArray.toList_eq]; rfl
    rw [hX0, hX1]
    rcases ord5_int n0 n1 hn0 hn1 with ⟨h, O⟩ | ⟨h, O⟩ | ⟨h, O⟩
    · exact ⟨true, false, _, _, _, by simp [vI, h], be, O, .inl ⟨rfl, rfl, rfl, rfl, rfl⟩⟩
    · exact ⟨false, false, _, _, _, by simp [vI, h], be, O, .inr (.inl ⟨rfl, rfl, rfl, rfl, rfl⟩)⟩
    · exact ⟨false, false, _, _, _, decide_eq_false (show ¬ n0 < n1 by omega), be, O, .inr (.inr ⟨rfl, rfl, rfl, rfl, rfl⟩)⟩
  have T23 : ∃ bn bs l e g, decide (X2.n < X3.n) = bn ∧ Op.bytesLess X2.s.toList X3.s.toList = bs ∧ Ord5 X2 X3 l e g ∧ ((bn = false ∧ bs = true ∧ l = true ∧ e = false ∧ g = false) ∨ (bn = false ∧ bs = false ∧ l = false ∧ e = true ∧ g = false) ∨ (bn = false ∧ bs = false ∧ l = false ∧ e = false ∧ g = true)) := by
    rw [hX2, hX3]
    rcases ord5_str (s0.extract 0 k0) (s1.extract 0 k1) sz0 sz1 with ⟨h, O⟩ | ⟨h, O⟩ | ⟨h, O⟩
    · exact ⟨false, true, _, _, _, rfl, by rw [ByteArray.toList_eq, ByteArray.toList_eq]; exact h, O, .inl ⟨rfl, rfl, rfl, rfl, rfl⟩⟩
    · exact ⟨false, false, _, _, _, rfl, by rw [ByteArray.toList_eq, ByteArray.toList_eq]; exact h, O, .inr (.inl ⟨rfl, rfl, rfl, rfl, rfl⟩)⟩
    · exact ⟨false, false, _, _, _, rfl, by rw [ByteArray.toList_eq, ByteArray.toList_eq]; exact h, O, .inr (.inr ⟨rfl, rfl, rfl, rfl, rfl⟩)⟩
  have N02 : Hid (ordRes true false X0 X2 = .type ∧ ordRes true false X2 X0 = .type ∧ X0.n = n0) := Lib.hid ⟨by rw [hX0, hX2]; rfl, by rw [hX0, hX2]; rfl, by rw [hX0]; rfl⟩
  have HT := Lib.hid T01
  have HU := Lib.hid T23
  have HN0 := Lib.hid hn0
  clear T01 T23 hX0 hX1 hX2 hX3 sz0 sz1 he0 he1 hl0 hl1 hm0 hm1 hn0 hn1 hs0 hs1 KN KS KbA HbA
  obtain ⟨bB, hbB⟩ : ∃ base, base = boxR qL1 (.cells #[.int .i64 X0.kind, .int .i64 X0.n, .string X0.s, .int .i64 X1.kind, .int .i64 X1.n, .string X1.s, .int .i64 X2.kind, .int .i64 X2.n, .string X2.s, .int .i64 X3.kind, .int .i64 X3.n, .string X3.s] 36) :: heapR h ⟨[], 0⟩ :: boxR (b + 1 + 1) (.cells #[.int .i64 v.kind, .int .i64 v.n, .string v.s] 29) :: boxR (b + 1) (.cells #[.string s0, .string s1] 27) :: boxR b (.cells #[.int .i64 n0, .int .i64 n1] 26) :: [] := ⟨_, rfl⟩
  have HB := Lib.hid hbB
  have SB : Hid (Sep w bB w3) := Lib.hid (by rw [hbB]; exact S)
  clear S hbB
  go_wp2
  go_loopw [10] (fun i wr => (i = .int .i64 0 ∨ i = .int .i64 1 ∨ i = .int .i64 2) ∧ Sep w bB wr) (fun i _ => (2 - intOf i).toNat)
  case atStart => exact ⟨.inl rfl, SB.out⟩
  case round =>
    clear SB
    obtain ⟨hi, S⟩ := hrel
    rw [HB.out] at S
    rcases hi with rfl | rfl | rfl
    case inl =>
      obtain ⟨bn, bs, l, e, g, hbn, hbs, O, h3⟩ := HT.out
      obtain ⟨iL, hiL⟩ : ∃ i : Int, i = if l = true then 1 else 0 := ⟨_, rfl⟩
      obtain ⟨iE, hiE⟩ : ∃ i : Int, i = if e = true then 1 else 0 := ⟨_, rfl⟩
      obtain ⟨iG, hiG⟩ : ∃ i : Int, i = if g = true then 1 else 0 := ⟨_, rfl⟩
      obtain ⟨jL, hjL⟩ : ∃ i : Int, i = if g = true then 0 else 1 := ⟨_, rfl⟩
      obtain ⟨jG, hjG⟩ : ∃ i : Int, i = if l = true then 0 else 1 := ⟨_, rfl⟩
      have HC := Lib.hid h3
      have HO := Lib.hid O
      have HN := Lib.hid (And.intro hbn (And.intro hbs (And.intro hiL (And.intro hiE (And.intro hiG (And.intro hjL hjG))))))
      clear hbn hbs O h3 hiL hiE hiG hjL hjG
      have c0 := cellAt (S.box (b := qL1) 0 rfl) 0 (v := .int .i64 X0.kind) rfl
      have c1 := cellAt (S.box (b := qL1) 0 rfl) 1 (v := .int .i64 X0.n) rfl
      have c2 := cellAt (S.box (b := qL1) 0 rfl) 2 (v := .string X0.s) rfl
      have c3 := cellAt (S.box (b := qL1) 0 rfl) 3 (v := .int .i64 X1.kind) rfl
      have c4 := cellAt (S.box (b := qL1) 0 rfl) 4 (v := .int .i64 X1.n) rfl
      have c5 := cellAt (S.box (b := qL1) 0 rfl) 5 (v := .string X1.s) rfl
      have c6 := cellAt (S.box (b := qL1) 0 rfl) 6 (v := .int .i64 X2.kind) rfl
      have c7 := cellAt (S.box (b := qL1) 0 rfl) 7 (v := .int .i64 X2.n) rfl
      have c8 := cellAt (S.box (b := qL1) 0 rfl) 8 (v := .string X2.s) rfl
      have c9 := cellAt (S.box (b := qL1) 0 rfl) 9 (v := .int .i64 X3.kind) rfl
      have c10 := cellAt (S.box (b := qL1) 0 rfl) 10 (v := .int .i64 X3.n) rfl
      have c11 := cellAt (S.box (b := qL1) 0 rfl) 11 (v := .string X3.s) rfl
      have Sm := S.alloc (.cells #[.int .i64 X0.kind, .int .i64 X0.n, .string X0.s] 29)
      have Hm := Sm.box (b := qL1) 1 rfl
      have m0 := cellAt Hm 0 (v := .int .i64 X0.kind) rfl
      have m1 := cellAt Hm 1 (v := .int .i64 X0.n) rfl
      have m2 := cellAt Hm 2 (v := .string X0.s) rfl
      have m3 := cellAt Hm 3 (v := .int .i64 X1.kind) rfl
      have m4 := cellAt Hm 4 (v := .int .i64 X1.n) rfl
      have m5 := cellAt Hm 5 (v := .string X1.s) rfl
      have m6 := cellAt Hm 6 (v := .int .i64 X2.kind) rfl
      have m7 := cellAt Hm 7 (v := .int .i64 X2.n) rfl
      have m8 := cellAt Hm 8 (v := .string X2.s) rfl
      have m9 := cellAt Hm 9 (v := .int .i64 X3.kind) rfl
      have m10 := cellAt Hm 10 (v := .int .i64 X3.n) rfl
      have m11 := cellAt Hm 11 (v := .string X3.s) rfl
      clear Sm Hm
      obtain ⟨xa, hxa⟩ : ∃ gx_, (wr.heap.size) = gx_ := ⟨_, rfl⟩
      replace S := ((S.alloc (.cells #[.int .i64 X0.kind, .int .i64 X0.n, .string X0.s] 29)).alloc (.cells #[.int .i64 X1.kind, .int .i64 X1.n, .string X1.s] 29))
      simp only [World.size_alloc, hxa] at S
      replace S : Sep w (boxR (xa + 1) (.cells #[.int .i64 X1.kind, .int .i64 X1.n, .string X1.s] 29) :: boxR xa (.cells #[.int .i64 X0.kind, .int .i64 X0.n, .string X0.s] 29) :: boxR qL1 (.cells #[.int .i64 X0.kind, .int .i64 X0.n, .string X0.s, .int .i64 X1.kind, .int .i64 X1.n, .string X1.s, .int .i64 X2.kind, .int .i64 X2.n, .string X2.s, .int .i64 X3.kind, .int .i64 X3.n, .string X3.s] 36) :: heapR h ⟨[], 0⟩ :: boxR (b + 1 + 1) (.cells #[.int .i64 v.kind, .int .i64 v.n, .string v.s] 29) :: boxR (b + 1) (.cells #[.string s0, .string s1] 27) :: boxR b (.cells #[.int .i64 n0, .int .i64 n1] 26) :: []) _ := S
      have MC : Calls Tryz.prog 18 #[.pointer (some ⟨h, 0, none⟩), .string ⟨#[60]⟩, .agg #[.int .i64 X0.kind, .int .i64 X0.n, .string X0.s], .agg #[.int .i64 X1.kind, .int .i64 X1.n, .string X1.s]] _ fun e W' => e = .returned (.tuple #[.agg #[.int .i64 1, .int .i64 iL, .string ⟨#[]⟩], excZ]) ∧ Sep w (boxR (xa + 1) (.cells #[.int .i64 X1.kind, .int .i64 X1.n, .string X1.s] 29) :: boxR xa (.cells #[.int .i64 X0.kind, .int .i64 X0.n, .string X0.s] 29) :: boxR qL1 (.cells #[.int .i64 X0.kind, .int .i64 X0.n, .string X0.s, .int .i64 X1.kind, .int .i64 X1.n, .string X1.s, .int .i64 X2.kind, .int .i64 X2.n, .string X2.s, .int .i64 X3.kind, .int .i64 X3.n, .string X3.s] 36) :: heapR h ⟨[], 0⟩ :: boxR (b + 1 + 1) (.cells #[.int .i64 v.kind, .int .i64 v.n, .string v.s] 29) :: boxR (b + 1) (.cells #[.string s0, .string s1] 27) :: boxR b (.cells #[.int .i64 n0, .int .i64 n1] 26) :: []) W' := cmp_lt S 3 rfl X0 X1 _ (by rw [HO.out.lt, HN.out.2.2.1]; cases l <;> rfl)
      have d0 := cellAt (S.box (b := xa) 1 rfl) 0 (v := .int .i64 X0.kind) rfl
      have d1 := cellAt (S.box (b := xa) 1 rfl) 1 (v := .int .i64 X0.n) rfl
      have d2 := cellAt (S.box (b := xa) 1 rfl) 2 (v := .string X0.s) rfl
      have d3 := cellAt (S.box (b := xa + 1) 0 rfl) 0 (v := .int .i64 X1.kind) rfl
      have d4 := cellAt (S.box (b := xa + 1) 0 rfl) 1 (v := .int .i64 X1.n) rfl
      have d5 := cellAt (S.box (b := xa + 1) 0 rfl) 2 (v := .string X1.s) rfl
      have M := Lib.hid (MC)
      clear S
      go_wp2_with fail
      try simp only [hxa]
      refine M.out.mono ?_
      rintro e w11 ⟨rfl, S⟩
      clear M d0 d1 d2 d3 d4 d5 hxa
      clear MC
      replace S : Sep w (boxR (xa + 1) (.cells #[.int .i64 X1.kind, .int .i64 X1.n, .string X1.s] 29) :: boxR xa (.cells #[.int .i64 X0.kind, .int .i64 X0.n, .string X0.s] 29) :: boxR qL1 (.cells #[.int .i64 X0.kind, .int .i64 X0.n, .string X0.s, .int .i64 X1.kind, .int .i64 X1.n, .string X1.s, .int .i64 X2.kind, .int .i64 X2.n, .string X2.s, .int .i64 X3.kind, .int .i64 X3.n, .string X3.s] 36) :: heapR h ⟨[], 0⟩ :: boxR (b + 1 + 1) (.cells #[.int .i64 v.kind, .int .i64 v.n, .string v.s] 29) :: boxR (b + 1) (.cells #[.string s0, .string s1] 27) :: boxR b (.cells #[.int .i64 n0, .int .i64 n1] 26) :: []) _ := S
      clear c0 c1 c2 c3 c4 c5 c6 c7 c8 c9 c10 c11 m0 m1 m2 m3 m4 m5 m6 m7 m8 m9 m10 m11
      obtain ⟨p0, hp0⟩ : ∃ gx_, (w11.heap.size) = gx_ := ⟨_, rfl⟩
      replace S := ((S.alloc (.cells #[.int .i64 1, .int .i64 iL, .string ⟨#[]⟩] 29)).alloc (.cells #[.string ⟨#[]⟩, .int .i64 0, .int .i64 0, .string ⟨#[]⟩, .bool false] 38))
      simp only [World.size_alloc, hp0] at S
      replace S : Sep w (boxR (p0 + 1) (.cells #[.string ⟨#[]⟩, .int .i64 0, .int .i64 0, .string ⟨#[]⟩, .bool false] 38) :: boxR p0 (.cells #[.int .i64 1, .int .i64 iL, .string ⟨#[]⟩] 29) :: boxR (xa + 1) (.cells #[.int .i64 X1.kind, .int .i64 X1.n, .string X1.s] 29) :: boxR xa (.cells #[.int .i64 X0.kind, .int .i64 X0.n, .string X0.s] 29) :: boxR qL1 (.cells #[.int .i64 X0.kind, .int .i64 X0.n, .string X0.s, .int .i64 X1.kind, .int .i64 X1.n, .string X1.s, .int .i64 X2.kind, .int .i64 X2.n, .string X2.s, .int .i64 X3.kind, .int .i64 X3.n, .string X3.s] 36) :: heapR h ⟨[], 0⟩ :: boxR (b + 1 + 1) (.cells #[.int .i64 v.kind, .int .i64 v.n, .string v.s] 29) :: boxR (b + 1) (.cells #[.string s0, .string s1] 27) :: boxR b (.cells #[.int .i64 n0, .int .i64 n1] 26) :: []) _ := S
      have MC : Calls Tryz.prog 18 #[.pointer (some ⟨h, 0, none⟩), .string ⟨#[62]⟩, .agg #[.int .i64 X0.kind, .int .i64 X0.n, .string X0.s], .agg #[.int .i64 X1.kind, .int .i64 X1.n, .string X1.s]] _ fun e W' => e = .returned (.tuple #[.agg #[.int .i64 1, .int .i64 iG, .string ⟨#[]⟩], excZ]) ∧ Sep w (boxR (p0 + 1) (.cells #[.string ⟨#[]⟩, .int .i64 0, .int .i64 0, .string ⟨#[]⟩, .bool false] 38) :: boxR p0 (.cells #[.int .i64 1, .int .i64 iL, .string ⟨#[]⟩] 29) :: boxR (xa + 1) (.cells #[.int .i64 X1.kind, .int .i64 X1.n, .string X1.s] 29) :: boxR xa (.cells #[.int .i64 X0.kind, .int .i64 X0.n, .string X0.s] 29) :: boxR qL1 (.cells #[.int .i64 X0.kind, .int .i64 X0.n, .string X0.s, .int .i64 X1.kind, .int .i64 X1.n, .string X1.s, .int .i64 X2.kind, .int .i64 X2.n, .string X2.s, .int .i64 X3.kind, .int .i64 X3.n, .string X3.s] 36) :: heapR h ⟨[], 0⟩ :: boxR (b + 1 + 1) (.cells #[.int .i64 v.kind, .int .i64 v.n, .string v.s] 29) :: boxR (b + 1) (.cells #[.string s0, .string s1] 27) :: boxR b (.cells #[.int .i64 n0, .int .i64 n1] 26) :: []) W' := cmp_gt S 5 rfl X0 X1 _ (by rw [HO.out.gt, HN.out.2.2.2.2.1]; cases g <;> rfl)
      have d0 := cellAt (S.box (b := xa) 3 rfl) 0 (v := .int .i64 X0.kind) rfl
      have d1 := cellAt (S.box (b := xa) 3 rfl) 1 (v := .int .i64 X0.n) rfl
      have d2 := cellAt (S.box (b := xa) 3 rfl) 2 (v := .string X0.s) rfl
      have d3 := cellAt (S.box (b := xa + 1) 2 rfl) 0 (v := .int .i64 X1.kind) rfl
      have d4 := cellAt (S.box (b := xa + 1) 2 rfl) 1 (v := .int .i64 X1.n) rfl
      have d5 := cellAt (S.box (b := xa + 1) 2 rfl) 2 (v := .string X1.s) rfl
      have M := Lib.hid (MC)
      clear S
      go_wp2_with fail
      try simp only [hp0]
      refine M.out.mono ?_
      rintro e w12 ⟨rfl, S⟩
      clear M d0 d1 d2 d3 d4 d5 hp0
      clear MC
      replace S : Sep w (boxR (p0 + 1) (.cells #[.string ⟨#[]⟩, .int .i64 0, .int .i64 0, .string ⟨#[]⟩, .bool false] 38) :: boxR p0 (.cells #[.int .i64 1, .int .i64 iL, .string ⟨#[]⟩] 29) :: boxR (xa + 1) (.cells #[.int .i64 X1.kind, .int .i64 X1.n, .string X1.s] 29) :: boxR xa (.cells #[.int .i64 X0.kind, .int .i64 X0.n, .string X0.s] 29) :: boxR qL1 (.cells #[.int .i64 X0.kind, .int .i64 X0.n, .string X0.s, .int .i64 X1.kind, .int .i64 X1.n, .string X1.s, .int .i64 X2.kind, .int .i64 X2.n, .string X2.s, .int .i64 X3.kind, .int .i64 X3.n, .string X3.s] 36) :: heapR h ⟨[], 0⟩ :: boxR (b + 1 + 1) (.cells #[.int .i64 v.kind, .int .i64 v.n, .string v.s] 29) :: boxR (b + 1) (.cells #[.string s0, .string s1] 27) :: boxR b (.cells #[.int .i64 n0, .int .i64 n1] 26) :: []) _ := S
      obtain ⟨p2, hp2⟩ : ∃ gx_, (w12.heap.size) = gx_ := ⟨_, rfl⟩
      replace S := ((S.alloc (.cells #[.int .i64 1, .int .i64 iG, .string ⟨#[]⟩] 29)).alloc (.cells #[.string ⟨#[]⟩, .int .i64 0, .int .i64 0, .string ⟨#[]⟩, .bool false] 38))
      simp only [World.size_alloc, hp2] at S
      replace S : Sep w (boxR (p2 + 1) (.cells #[.string ⟨#[]⟩, .int .i64 0, .int .i64 0, .string ⟨#[]⟩, .bool false] 38) :: boxR p2 (.cells #[.int .i64 1, .int .i64 iG, .string ⟨#[]⟩] 29) :: boxR (p0 + 1) (.cells #[.string ⟨#[]⟩, .int .i64 0, .int .i64 0, .string ⟨#[]⟩, .bool false] 38) :: boxR p0 (.cells #[.int .i64 1, .int .i64 iL, .string ⟨#[]⟩] 29) :: boxR (xa + 1) (.cells #[.int .i64 X1.kind, .int .i64 X1.n, .string X1.s] 29) :: boxR xa (.cells #[.int .i64 X0.kind, .int .i64 X0.n, .string X0.s] 29) :: boxR qL1 (.cells #[.int .i64 X0.kind, .int .i64 X0.n, .string X0.s, .int .i64 X1.kind, .int .i64 X1.n, .string X1.s, .int .i64 X2.kind, .int .i64 X2.n, .string X2.s, .int .i64 X3.kind, .int .i64 X3.n, .string X3.s] 36) :: heapR h ⟨[], 0⟩ :: boxR (b + 1 + 1) (.cells #[.int .i64 v.kind, .int .i64 v.n, .string v.s] 29) :: boxR (b + 1) (.cells #[.string s0, .string s1] 27) :: boxR b (.cells #[.int .i64 n0, .int .i64 n1] 26) :: []) _ := S
      have MC : Calls Tryz.prog 18 #[.pointer (some ⟨h, 0, none⟩), .string ⟨#[61, 61]⟩, .agg #[.int .i64 X0.kind, .int .i64 X0.n, .string X0.s], .agg #[.int .i64 X1.kind, .int .i64 X1.n, .string X1.s]] _ fun e W' => e = .returned (.tuple #[.agg #[.int .i64 1, .int .i64 iE, .string ⟨#[]⟩], excZ]) ∧ Sep w (boxR (p2 + 1) (.cells #[.string ⟨#[]⟩, .int .i64 0, .int .i64 0, .string ⟨#[]⟩, .bool false] 38) :: boxR p2 (.cells #[.int .i64 1, .int .i64 iG, .string ⟨#[]⟩] 29) :: boxR (p0 + 1) (.cells #[.string ⟨#[]⟩, .int .i64 0, .int .i64 0, .string ⟨#[]⟩, .bool false] 38) :: boxR p0 (.cells #[.int .i64 1, .int .i64 iL, .string ⟨#[]⟩] 29) :: boxR (xa + 1) (.cells #[.int .i64 X1.kind, .int .i64 X1.n, .string X1.s] 29) :: boxR xa (.cells #[.int .i64 X0.kind, .int .i64 X0.n, .string X0.s] 29) :: boxR qL1 (.cells #[.int .i64 X0.kind, .int .i64 X0.n, .string X0.s, .int .i64 X1.kind, .int .i64 X1.n, .string X1.s, .int .i64 X2.kind, .int .i64 X2.n, .string X2.s, .int .i64 X3.kind, .int .i64 X3.n, .string X3.s] 36) :: heapR h ⟨[], 0⟩ :: boxR (b + 1 + 1) (.cells #[.int .i64 v.kind, .int .i64 v.n, .string v.s] 29) :: boxR (b + 1) (.cells #[.string s0, .string s1] 27) :: boxR b (.cells #[.int .i64 n0, .int .i64 n1] 26) :: []) W' := cmp_eq good_empty (by decide) S 7 rfl X0 X1 _ (by rw [same_empty, HO.out.eq, HN.out.2.2.2.1]; cases e <;> rfl)
      have d0 := cellAt (S.box (b := xa) 5 rfl) 0 (v := .int .i64 X0.kind) rfl
      have d1 := cellAt (S.box (b := xa) 5 rfl) 1 (v := .int .i64 X0.n) rfl
      have d2 := cellAt (S.box (b := xa) 5 rfl) 2 (v := .string X0.s) rfl
      have d3 := cellAt (S.box (b := xa + 1) 4 rfl) 0 (v := .int .i64 X1.kind) rfl
      have d4 := cellAt (S.box (b := xa + 1) 4 rfl) 1 (v := .int .i64 X1.n) rfl
      have d5 := cellAt (S.box (b := xa + 1) 4 rfl) 2 (v := .string X1.s) rfl
      have M := Lib.hid (MC)
      clear S
      go_wp2_with fail
      try simp only [hp2]
      refine M.out.mono ?_
      rintro e w13 ⟨rfl, S⟩
      clear M d0 d1 d2 d3 d4 d5 hp2
      clear MC
      replace S : Sep w (boxR (p2 + 1) (.cells #[.string ⟨#[]⟩, .int .i64 0, .int .i64 0, .string ⟨#[]⟩, .bool false] 38) :: boxR p2 (.cells #[.int .i64 1, .int .i64 iG, .string ⟨#[]⟩] 29) :: boxR (p0 + 1) (.cells #[.string ⟨#[]⟩, .int .i64 0, .int .i64 0, .string ⟨#[]⟩, .bool false] 38) :: boxR p0 (.cells #[.int .i64 1, .int .i64 iL, .string ⟨#[]⟩] 29) :: boxR (xa + 1) (.cells #[.int .i64 X1.kind, .int .i64 X1.n, .string X1.s] 29) :: boxR xa (.cells #[.int .i64 X0.kind, .int .i64 X0.n, .string X0.s] 29) :: boxR qL1 (.cells #[.int .i64 X0.kind, .int .i64 X0.n, .string X0.s, .int .i64 X1.kind, .int .i64 X1.n, .string X1.s, .int .i64 X2.kind, .int .i64 X2.n, .string X2.s, .int .i64 X3.kind, .int .i64 X3.n, .string X3.s] 36) :: heapR h ⟨[], 0⟩ :: boxR (b + 1 + 1) (.cells #[.int .i64 v.kind, .int .i64 v.n, .string v.s] 29) :: boxR (b + 1) (.cells #[.string s0, .string s1] 27) :: boxR b (.cells #[.int .i64 n0, .int .i64 n1] 26) :: []) _ := S
      obtain ⟨p4, hp4⟩ : ∃ gx_, (w13.heap.size) = gx_ := ⟨_, rfl⟩
      replace S := ((S.alloc (.cells #[.int .i64 1, .int .i64 iE, .string ⟨#[]⟩] 29)).alloc (.cells #[.string ⟨#[]⟩, .int .i64 0, .int .i64 0, .string ⟨#[]⟩, .bool false] 38))
      simp only [World.size_alloc, hp4] at S
      replace S : Sep w (boxR (p4 + 1) (.cells #[.string ⟨#[]⟩, .int .i64 0, .int .i64 0, .string ⟨#[]⟩, .bool false] 38) :: boxR p4 (.cells #[.int .i64 1, .int .i64 iE, .string ⟨#[]⟩] 29) :: boxR (p2 + 1) (.cells #[.string ⟨#[]⟩, .int .i64 0, .int .i64 0, .string ⟨#[]⟩, .bool false] 38) :: boxR p2 (.cells #[.int .i64 1, .int .i64 iG, .string ⟨#[]⟩] 29) :: boxR (p0 + 1) (.cells #[.string ⟨#[]⟩, .int .i64 0, .int .i64 0, .string ⟨#[]⟩, .bool false] 38) :: boxR p0 (.cells #[.int .i64 1, .int .i64 iL, .string ⟨#[]⟩] 29) :: boxR (xa + 1) (.cells #[.int .i64 X1.kind, .int .i64 X1.n, .string X1.s] 29) :: boxR xa (.cells #[.int .i64 X0.kind, .int .i64 X0.n, .string X0.s] 29) :: boxR qL1 (.cells #[.int .i64 X0.kind, .int .i64 X0.n, .string X0.s, .int .i64 X1.kind, .int .i64 X1.n, .string X1.s, .int .i64 X2.kind, .int .i64 X2.n, .string X2.s, .int .i64 X3.kind, .int .i64 X3.n, .string X3.s] 36) :: heapR h ⟨[], 0⟩ :: boxR (b + 1 + 1) (.cells #[.int .i64 v.kind, .int .i64 v.n, .string v.s] 29) :: boxR (b + 1) (.cells #[.string s0, .string s1] 27) :: boxR b (.cells #[.int .i64 n0, .int .i64 n1] 26) :: []) _ := S
      have MC : Calls Tryz.prog 18 #[.pointer (some ⟨h, 0, none⟩), .string ⟨#[60, 61]⟩, .agg #[.int .i64 X0.kind, .int .i64 X0.n, .string X0.s], .agg #[.int .i64 X1.kind, .int .i64 X1.n, .string X1.s]] _ fun e W' => e = .returned (.tuple #[.agg #[.int .i64 1, .int .i64 jL, .string ⟨#[]⟩], excZ]) ∧ Sep w (boxR (p4 + 1) (.cells #[.string ⟨#[]⟩, .int .i64 0, .int .i64 0, .string ⟨#[]⟩, .bool false] 38) :: boxR p4 (.cells #[.int .i64 1, .int .i64 iE, .string ⟨#[]⟩] 29) :: boxR (p2 + 1) (.cells #[.string ⟨#[]⟩, .int .i64 0, .int .i64 0, .string ⟨#[]⟩, .bool false] 38) :: boxR p2 (.cells #[.int .i64 1, .int .i64 iG, .string ⟨#[]⟩] 29) :: boxR (p0 + 1) (.cells #[.string ⟨#[]⟩, .int .i64 0, .int .i64 0, .string ⟨#[]⟩, .bool false] 38) :: boxR p0 (.cells #[.int .i64 1, .int .i64 iL, .string ⟨#[]⟩] 29) :: boxR (xa + 1) (.cells #[.int .i64 X1.kind, .int .i64 X1.n, .string X1.s] 29) :: boxR xa (.cells #[.int .i64 X0.kind, .int .i64 X0.n, .string X0.s] 29) :: boxR qL1 (.cells #[.int .i64 X0.kind, .int .i64 X0.n, .string X0.s, .int .i64 X1.kind, .int .i64 X1.n, .string X1.s, .int .i64 X2.kind, .int .i64 X2.n, .string X2.s, .int .i64 X3.kind, .int .i64 X3.n, .string X3.s] 36) :: heapR h ⟨[], 0⟩ :: boxR (b + 1 + 1) (.cells #[.int .i64 v.kind, .int .i64 v.n, .string v.s] 29) :: boxR (b + 1) (.cells #[.string s0, .string s1] 27) :: boxR b (.cells #[.int .i64 n0, .int .i64 n1] 26) :: []) W' := cmp_le S 9 rfl X0 X1 _ (by rw [HO.out.le, HN.out.2.2.2.2.2.1]; cases g <;> rfl)
      have d0 := cellAt (S.box (b := xa) 7 rfl) 0 (v := .int .i64 X0.kind) rfl
      have d1 := cellAt (S.box (b := xa) 7 rfl) 1 (v := .int .i64 X0.n) rfl
      have d2 := cellAt (S.box (b := xa) 7 rfl) 2 (v := .string X0.s) rfl
      have d3 := cellAt (S.box (b := xa + 1) 6 rfl) 0 (v := .int .i64 X1.kind) rfl
      have d4 := cellAt (S.box (b := xa + 1) 6 rfl) 1 (v := .int .i64 X1.n) rfl
      have d5 := cellAt (S.box (b := xa + 1) 6 rfl) 2 (v := .string X1.s) rfl
      have M := Lib.hid (MC)
      clear S
      go_wp2_with fail
      try simp only [hp4]
      refine M.out.mono ?_
      rintro e w14 ⟨rfl, S⟩
      clear M d0 d1 d2 d3 d4 d5 hp4
      clear MC
      replace S : Sep w (boxR (p4 + 1) (.cells #[.string ⟨#[]⟩, .int .i64 0, .int .i64 0, .string ⟨#[]⟩, .bool false] 38) :: boxR p4 (.cells #[.int .i64 1, .int .i64 iE, .string ⟨#[]⟩] 29) :: boxR (p2 + 1) (.cells #[.string ⟨#[]⟩, .int .i64 0, .int .i64 0, .string ⟨#[]⟩, .bool false] 38) :: boxR p2 (.cells #[.int .i64 1, .int .i64 iG, .string ⟨#[]⟩] 29) :: boxR (p0 + 1) (.cells #[.string ⟨#[]⟩, .int .i64 0, .int .i64 0, .string ⟨#[]⟩, .bool false] 38) :: boxR p0 (.cells #[.int .i64 1, .int .i64 iL, .string ⟨#[]⟩] 29) :: boxR (xa + 1) (.cells #[.int .i64 X1.kind, .int .i64 X1.n, .string X1.s] 29) :: boxR xa (.cells #[.int .i64 X0.kind, .int .i64 X0.n, .string X0.s] 29) :: boxR qL1 (.cells #[.int .i64 X0.kind, .int .i64 X0.n, .string X0.s, .int .i64 X1.kind, .int .i64 X1.n, .string X1.s, .int .i64 X2.kind, .int .i64 X2.n, .string X2.s, .int .i64 X3.kind, .int .i64 X3.n, .string X3.s] 36) :: heapR h ⟨[], 0⟩ :: boxR (b + 1 + 1) (.cells #[.int .i64 v.kind, .int .i64 v.n, .string v.s] 29) :: boxR (b + 1) (.cells #[.string s0, .string s1] 27) :: boxR b (.cells #[.int .i64 n0, .int .i64 n1] 26) :: []) _ := S
      obtain ⟨p6, hp6⟩ : ∃ gx_, (w14.heap.size) = gx_ := ⟨_, rfl⟩
      replace S := ((S.alloc (.cells #[.int .i64 1, .int .i64 jL, .string ⟨#[]⟩] 29)).alloc (.cells #[.string ⟨#[]⟩, .int .i64 0, .int .i64 0, .string ⟨#[]⟩, .bool false] 38))
      simp only [World.size_alloc, hp6] at S
      replace S : Sep w (boxR (p6 + 1) (.cells #[.string ⟨#[]⟩, .int .i64 0, .int .i64 0, .string ⟨#[]⟩, .bool false] 38) :: boxR p6 (.cells #[.int .i64 1, .int .i64 jL, .string ⟨#[]⟩] 29) :: boxR (p4 + 1) (.cells #[.string ⟨#[]⟩, .int .i64 0, .int .i64 0, .string ⟨#[]⟩, .bool false] 38) :: boxR p4 (.cells #[.int .i64 1, .int .i64 iE, .string ⟨#[]⟩] 29) :: boxR (p2 + 1) (.cells #[.string ⟨#[]⟩, .int .i64 0, .int .i64 0, .string ⟨#[]⟩, .bool false] 38) :: boxR p2 (.cells #[.int .i64 1, .int .i64 iG, .string ⟨#[]⟩] 29) :: boxR (p0 + 1) (.cells #[.string ⟨#[]⟩, .int .i64 0, .int .i64 0, .string ⟨#[]⟩, .bool false] 38) :: boxR p0 (.cells #[.int .i64 1, .int .i64 iL, .string ⟨#[]⟩] 29) :: boxR (xa + 1) (.cells #[.int .i64 X1.kind, .int .i64 X1.n, .string X1.s] 29) :: boxR xa (.cells #[.int .i64 X0.kind, .int .i64 X0.n, .string X0.s] 29) :: boxR qL1 (.cells #[.int .i64 X0.kind, .int .i64 X0.n, .string X0.s, .int .i64 X1.kind, .int .i64 X1.n, .string X1.s, .int .i64 X2.kind, .int .i64 X2.n, .string X2.s, .int .i64 X3.kind, .int .i64 X3.n, .string X3.s] 36) :: heapR h ⟨[], 0⟩ :: boxR (b + 1 + 1) (.cells #[.int .i64 v.kind, .int .i64 v.n, .string v.s] 29) :: boxR (b + 1) (.cells #[.string s0, .string s1] 27) :: boxR b (.cells #[.int .i64 n0, .int .i64 n1] 26) :: []) _ := S
      have MC : Calls Tryz.prog 18 #[.pointer (some ⟨h, 0, none⟩), .string ⟨#[62, 61]⟩, .agg #[.int .i64 X0.kind, .int .i64 X0.n, .string X0.s], .agg #[.int .i64 X1.kind, .int .i64 X1.n, .string X1.s]] _ fun e W' => e = .returned (.tuple #[.agg #[.int .i64 1, .int .i64 jG, .string ⟨#[]⟩], excZ]) ∧ Sep w (boxR (p6 + 1) (.cells #[.string ⟨#[]⟩, .int .i64 0, .int .i64 0, .string ⟨#[]⟩, .bool false] 38) :: boxR p6 (.cells #[.int .i64 1, .int .i64 jL, .string ⟨#[]⟩] 29) :: boxR (p4 + 1) (.cells #[.string ⟨#[]⟩, .int .i64 0, .int .i64 0, .string ⟨#[]⟩, .bool false] 38) :: boxR p4 (.cells #[.int .i64 1, .int .i64 iE, .string ⟨#[]⟩] 29) :: boxR (p2 + 1) (.cells #[.string ⟨#[]⟩, .int .i64 0, .int .i64 0, .string ⟨#[]⟩, .bool false] 38) :: boxR p2 (.cells #[.int .i64 1, .int .i64 iG, .string ⟨#[]⟩] 29) :: boxR (p0 + 1) (.cells #[.string ⟨#[]⟩, .int .i64 0, .int .i64 0, .string ⟨#[]⟩, .bool false] 38) :: boxR p0 (.cells #[.int .i64 1, .int .i64 iL, .string ⟨#[]⟩] 29) :: boxR (xa + 1) (.cells #[.int .i64 X1.kind, .int .i64 X1.n, .string X1.s] 29) :: boxR xa (.cells #[.int .i64 X0.kind, .int .i64 X0.n, .string X0.s] 29) :: boxR qL1 (.cells #[.int .i64 X0.kind, .int .i64 X0.n, .string X0.s, .int .i64 X1.kind, .int .i64 X1.n, .string X1.s, .int .i64 X2.kind, .int .i64 X2.n, .string X2.s, .int .i64 X3.kind, .int .i64 X3.n, .string X3.s] 36) :: heapR h ⟨[], 0⟩ :: boxR (b + 1 + 1) (.cells #[.int .i64 v.kind, .int .i64 v.n, .string v.s] 29) :: boxR (b + 1) (.cells #[.string s0, .string s1] 27) :: boxR b (.cells #[.int .i64 n0, .int .i64 n1] 26) :: []) W' := cmp_ge S 11 rfl X0 X1 _ (by rw [HO.out.ge, HN.out.2.2.2.2.2.2]; cases l <;> rfl)
      have d0 := cellAt (S.box (b := xa) 9 rfl) 0 (v := .int .i64 X0.kind) rfl
      have d1 := cellAt (S.box (b := xa) 9 rfl) 1 (v := .int .i64 X0.n) rfl
      have d2 := cellAt (S.box (b := xa) 9 rfl) 2 (v := .string X0.s) rfl
      have d3 := cellAt (S.box (b := xa + 1) 8 rfl) 0 (v := .int .i64 X1.kind) rfl
      have d4 := cellAt (S.box (b := xa + 1) 8 rfl) 1 (v := .int .i64 X1.n) rfl
      have d5 := cellAt (S.box (b := xa + 1) 8 rfl) 2 (v := .string X1.s) rfl
      have M := Lib.hid (MC)
      clear S
      go_wp2_with fail
      try simp only [hp6]
      refine M.out.mono ?_
      rintro e w15 ⟨rfl, S⟩
      clear M d0 d1 d2 d3 d4 d5 hp6
      clear MC
      replace S : Sep w (boxR (p6 + 1) (.cells #[.string ⟨#[]⟩, .int .i64 0, .int .i64 0, .string ⟨#[]⟩, .bool false] 38) :: boxR p6 (.cells #[.int .i64 1, .int .i64 jL, .string ⟨#[]⟩] 29) :: boxR (p4 + 1) (.cells #[.string ⟨#[]⟩, .int .i64 0, .int .i64 0, .string ⟨#[]⟩, .bool false] 38) :: boxR p4 (.cells #[.int .i64 1, .int .i64 iE, .string ⟨#[]⟩] 29) :: boxR (p2 + 1) (.cells #[.string ⟨#[]⟩, .int .i64 0, .int .i64 0, .string ⟨#[]⟩, .bool false] 38) :: boxR p2 (.cells #[.int .i64 1, .int .i64 iG, .string ⟨#[]⟩] 29) :: boxR (p0 + 1) (.cells #[.string ⟨#[]⟩, .int .i64 0, .int .i64 0, .string ⟨#[]⟩, .bool false] 38) :: boxR p0 (.cells #[.int .i64 1, .int .i64 iL, .string ⟨#[]⟩] 29) :: boxR (xa + 1) (.cells #[.int .i64 X1.kind, .int .i64 X1.n, .string X1.s] 29) :: boxR xa (.cells #[.int .i64 X0.kind, .int .i64 X0.n, .string X0.s] 29) :: boxR qL1 (.cells #[.int .i64 X0.kind, .int .i64 X0.n, .string X0.s, .int .i64 X1.kind, .int .i64 X1.n, .string X1.s, .int .i64 X2.kind, .int .i64 X2.n, .string X2.s, .int .i64 X3.kind, .int .i64 X3.n, .string X3.s] 36) :: heapR h ⟨[], 0⟩ :: boxR (b + 1 + 1) (.cells #[.int .i64 v.kind, .int .i64 v.n, .string v.s] 29) :: boxR (b + 1) (.cells #[.string s0, .string s1] 27) :: boxR b (.cells #[.int .i64 n0, .int .i64 n1] 26) :: []) _ := S
      obtain ⟨p8, hp8⟩ : ∃ gx_, (w15.heap.size) = gx_ := ⟨_, rfl⟩
      replace S := ((S.alloc (.cells #[.int .i64 1, .int .i64 jG, .string ⟨#[]⟩] 29)).alloc (.cells #[.string ⟨#[]⟩, .int .i64 0, .int .i64 0, .string ⟨#[]⟩, .bool false] 38))
      simp only [World.size_alloc, hp8] at S
      replace S : Sep w (boxR (p8 + 1) (.cells #[.string ⟨#[]⟩, .int .i64 0, .int .i64 0, .string ⟨#[]⟩, .bool false] 38) :: boxR p8 (.cells #[.int .i64 1, .int .i64 jG, .string ⟨#[]⟩] 29) :: boxR (p6 + 1) (.cells #[.string ⟨#[]⟩, .int .i64 0, .int .i64 0, .string ⟨#[]⟩, .bool false] 38) :: boxR p6 (.cells #[.int .i64 1, .int .i64 jL, .string ⟨#[]⟩] 29) :: boxR (p4 + 1) (.cells #[.string ⟨#[]⟩, .int .i64 0, .int .i64 0, .string ⟨#[]⟩, .bool false] 38) :: boxR p4 (.cells #[.int .i64 1, .int .i64 iE, .string ⟨#[]⟩] 29) :: boxR (p2 + 1) (.cells #[.string ⟨#[]⟩, .int .i64 0, .int .i64 0, .string ⟨#[]⟩, .bool false] 38) :: boxR p2 (.cells #[.int .i64 1, .int .i64 iG, .string ⟨#[]⟩] 29) :: boxR (p0 + 1) (.cells #[.string ⟨#[]⟩, .int .i64 0, .int .i64 0, .string ⟨#[]⟩, .bool false] 38) :: boxR p0 (.cells #[.int .i64 1, .int .i64 iL, .string ⟨#[]⟩] 29) :: boxR (xa + 1) (.cells #[.int .i64 X1.kind, .int .i64 X1.n, .string X1.s] 29) :: boxR xa (.cells #[.int .i64 X0.kind, .int .i64 X0.n, .string X0.s] 29) :: boxR qL1 (.cells #[.int .i64 X0.kind, .int .i64 X0.n, .string X0.s, .int .i64 X1.kind, .int .i64 X1.n, .string X1.s, .int .i64 X2.kind, .int .i64 X2.n, .string X2.s, .int .i64 X3.kind, .int .i64 X3.n, .string X3.s] 36) :: heapR h ⟨[], 0⟩ :: boxR (b + 1 + 1) (.cells #[.int .i64 v.kind, .int .i64 v.n, .string v.s] 29) :: boxR (b + 1) (.cells #[.string s0, .string s1] 27) :: boxR b (.cells #[.int .i64 n0, .int .i64 n1] 26) :: []) _ := S
      obtain ⟨bC, hbC⟩ : ∃ base, base = boxR (p8 + 1) (.cells #[.string ⟨#[]⟩, .int .i64 0, .int .i64 0, .string ⟨#[]⟩, .bool false] 38) :: boxR p8 (.cells #[.int .i64 1, .int .i64 jG, .string ⟨#[]⟩] 29) :: boxR (p6 + 1) (.cells #[.string ⟨#[]⟩, .int .i64 0, .int .i64 0, .string ⟨#[]⟩, .bool false] 38) :: boxR p6 (.cells #[.int .i64 1, .int .i64 jL, .string ⟨#[]⟩] 29) :: boxR (p4 + 1) (.cells #[.string ⟨#[]⟩, .int .i64 0, .int .i64 0, .string ⟨#[]⟩, .bool false] 38) :: boxR p4 (.cells #[.int .i64 1, .int .i64 iE, .string ⟨#[]⟩] 29) :: boxR (p2 + 1) (.cells #[.string ⟨#[]⟩, .int .i64 0, .int .i64 0, .string ⟨#[]⟩, .bool false] 38) :: boxR p2 (.cells #[.int .i64 1, .int .i64 iG, .string ⟨#[]⟩] 29) :: boxR (p0 + 1) (.cells #[.string ⟨#[]⟩, .int .i64 0, .int .i64 0, .string ⟨#[]⟩, .bool false] 38) :: boxR p0 (.cells #[.int .i64 1, .int .i64 iL, .string ⟨#[]⟩] 29) :: boxR (xa + 1) (.cells #[.int .i64 X1.kind, .int .i64 X1.n, .string X1.s] 29) :: boxR xa (.cells #[.int .i64 X0.kind, .int .i64 X0.n, .string X0.s] 29) :: boxR qL1 (.cells #[.int .i64 X0.kind, .int .i64 X0.n, .string X0.s, .int .i64 X1.kind, .int .i64 X1.n, .string X1.s, .int .i64 X2.kind, .int .i64 X2.n, .string X2.s, .int .i64 X3.kind, .int .i64 X3.n, .string X3.s] 36) :: heapR h ⟨[], 0⟩ :: boxR (b + 1 + 1) (.cells #[.int .i64 v.kind, .int .i64 v.n, .string v.s] 29) :: boxR (b + 1) (.cells #[.string s0, .string s1] 27) :: boxR b (.cells #[.int .i64 n0, .int .i64 n1] 26) :: [] := ⟨_, rfl⟩
      have HbC := Lib.hid hbC
      have KbC : Hid (∀ W (Q : List Res), Sep w (Q ++ bC) W → True) := Lib.hid fun W Q T => by
        rw [hbC] at T
        trivial
      have CbC_0 : Hid (∀ W (Q : List Res), Sep w (Q ++ bC) W → W.cell? ⟨xa, 0, none⟩ = some (.int .i64 X0.kind) ∧ W.cell? ⟨xa, 1, none⟩ = some (.int .i64 X0.n) ∧ W.cell? ⟨xa, 2, none⟩ = some (.string X0.s)) := Lib.hid fun W Q T => by
        rw [hbC] at T
        have i0 := T.box (b := xa) (o := .cells #[.int .i64 X0.kind, .int .i64 X0.n, .string X0.s] 29) (Q.length + 11) (by rw [List.getElem?_append_right (by omega), Nat.add_sub_cancel_left]; rfl)
        exact ⟨cellAt i0 0 rfl, cellAt i0 1 rfl, cellAt i0 2 rfl⟩
      have CbC_1 : Hid (∀ W (Q : List Res), Sep w (Q ++ bC) W → W.cell? ⟨xa + 1, 0, none⟩ = some (.int .i64 X1.kind) ∧ W.cell? ⟨xa + 1, 1, none⟩ = some (.int .i64 X1.n) ∧ W.cell? ⟨xa + 1, 2, none⟩ = some (.string X1.s)) := Lib.hid fun W Q T => by
        rw [hbC] at T
        have i0 := T.box (b := xa + 1) (o := .cells #[.int .i64 X1.kind, .int .i64 X1.n, .string X1.s] 29) (Q.length + 10) (by rw [List.getElem?_append_right (by omega), Nat.add_sub_cancel_left]; rfl)
        exact ⟨cellAt i0 0 rfl, cellAt i0 1 rfl, cellAt i0 2 rfl⟩
      have CbC_2 : Hid (∀ W (Q : List Res), Sep w (Q ++ bC) W → W.cell? ⟨p0, 0, none⟩ = some (.int .i64 1) ∧ W.cell? ⟨p0, 1, none⟩ = some (.int .i64 iL) ∧ W.cell? ⟨p0, 2, none⟩ = some (.string ⟨#[]⟩)) := Lib.hid fun W Q T => by
        rw [hbC] at T
        have i0 := T.box (b := p0) (o := .cells #[.int .i64 1, .int .i64 iL, .string ⟨#[]⟩] 29) (Q.length + 9) (by rw [List.getElem?_append_right (by omega), Nat.add_sub_cancel_left]; rfl)
        exact ⟨cellAt i0 0 rfl, cellAt i0 1 rfl, cellAt i0 2 rfl⟩
      have CbC_3 : Hid (∀ W (Q : List Res), Sep w (Q ++ bC) W → W.cell? ⟨p0 + 1, 0, none⟩ = some (.string ⟨#[]⟩) ∧ W.cell? ⟨p0 + 1, 1, none⟩ = some (.int .i64 0) ∧ W.cell? ⟨p0 + 1, 2, none⟩ = some (.int .i64 0) ∧ W.cell? ⟨p0 + 1, 3, none⟩ = some (.string ⟨#[]⟩) ∧ W.cell? ⟨p0 + 1, 4, none⟩ = some (.bool false)) := Lib.hid fun W Q T => by
        rw [hbC] at T
        have i0 := T.box (b := p0 + 1) (o := .cells #[.string ⟨#[]⟩, .int .i64 0, .int .i64 0, .string ⟨#[]⟩, .bool false] 38) (Q.length + 8) (by rw [List.getElem?_append_right (by omega), Nat.add_sub_cancel_left]; rfl)
        exact ⟨cellAt i0 0 rfl, cellAt i0 1 rfl, cellAt i0 2 rfl, cellAt i0 3 rfl, cellAt i0 4 rfl⟩
      have CbC_4 : Hid (∀ W (Q : List Res), Sep w (Q ++ bC) W → W.cell? ⟨p2, 0, none⟩ = some (.int .i64 1) ∧ W.cell? ⟨p2, 1, none⟩ = some (.int .i64 iG) ∧ W.cell? ⟨p2, 2, none⟩ = some (.string ⟨#[]⟩)) := Lib.hid fun W Q T => by
        rw [hbC] at T
        have i0 := T.box (b := p2) (o := .cells #[.int .i64 1, .int .i64 iG, .string ⟨#[]⟩] 29) (Q.length + 7) (by rw [List.getElem?_append_right (by omega), Nat.add_sub_cancel_left]; rfl)
        exact ⟨cellAt i0 0 rfl, cellAt i0 1 rfl, cellAt i0 2 rfl⟩
      have CbC_5 : Hid (∀ W (Q : List Res), Sep w (Q ++ bC) W → W.cell? ⟨p2 + 1, 0, none⟩ = some (.string ⟨#[]⟩) ∧ W.cell? ⟨p2 + 1, 1, none⟩ = some (.int .i64 0) ∧ W.cell? ⟨p2 + 1, 2, none⟩ = some (.int .i64 0) ∧ W.cell? ⟨p2 + 1, 3, none⟩ = some (.string ⟨#[]⟩) ∧ W.cell? ⟨p2 + 1, 4, none⟩ = some (.bool false)) := Lib.hid fun W Q T => by
        rw [hbC] at T
        have i0 := T.box (b := p2 + 1) (o := .cells #[.string ⟨#[]⟩, .int .i64 0, .int .i64 0, .string ⟨#[]⟩, .bool false] 38) (Q.length + 6) (by rw [List.getElem?_append_right (by omega), Nat.add_sub_cancel_left]; rfl)
        exact ⟨cellAt i0 0 rfl, cellAt i0 1 rfl, cellAt i0 2 rfl, cellAt i0 3 rfl, cellAt i0 4 rfl⟩
      have CbC_6 : Hid (∀ W (Q : List Res), Sep w (Q ++ bC) W → W.cell? ⟨p4, 0, none⟩ = some (.int .i64 1) ∧ W.cell? ⟨p4, 1, none⟩ = some (.int .i64 iE) ∧ W.cell? ⟨p4, 2, none⟩ = some (.string ⟨#[]⟩)) := Lib.hid fun W Q T => by
        rw [hbC] at T
        have i0 := T.box (b := p4) (o := .cells #[.int .i64 1, .int .i64 iE, .string ⟨#[]⟩] 29) (Q.length + 5) (by rw [List.getElem?_append_right (by omega), Nat.add_sub_cancel_left]; rfl)
        exact ⟨cellAt i0 0 rfl, cellAt i0 1 rfl, cellAt i0 2 rfl⟩
      have CbC_7 : Hid (∀ W (Q : List Res), Sep w (Q ++ bC) W → W.cell? ⟨p4 + 1, 0, none⟩ = some (.string ⟨#[]⟩) ∧ W.cell? ⟨p4 + 1, 1, none⟩ = some (.int .i64 0) ∧ W.cell? ⟨p4 + 1, 2, none⟩ = some (.int .i64 0) ∧ W.cell? ⟨p4 + 1, 3, none⟩ = some (.string ⟨#[]⟩) ∧ W.cell? ⟨p4 + 1, 4, none⟩ = some (.bool false)) := Lib.hid fun W Q T => by
        rw [hbC] at T
        have i0 := T.box (b := p4 + 1) (o := .cells #[.string ⟨#[]⟩, .int .i64 0, .int .i64 0, .string ⟨#[]⟩, .bool false] 38) (Q.length + 4) (by rw [List.getElem?_append_right (by omega), Nat.add_sub_cancel_left]; rfl)
        exact ⟨cellAt i0 0 rfl, cellAt i0 1 rfl, cellAt i0 2 rfl, cellAt i0 3 rfl, cellAt i0 4 rfl⟩
      have CbC_8 : Hid (∀ W (Q : List Res), Sep w (Q ++ bC) W → W.cell? ⟨p6, 0, none⟩ = some (.int .i64 1) ∧ W.cell? ⟨p6, 1, none⟩ = some (.int .i64 jL) ∧ W.cell? ⟨p6, 2, none⟩ = some (.string ⟨#[]⟩)) := Lib.hid fun W Q T => by
        rw [hbC] at T
        have i0 := T.box (b := p6) (o := .cells #[.int .i64 1, .int .i64 jL, .string ⟨#[]⟩] 29) (Q.length + 3) (by rw [List.getElem?_append_right (by omega), Nat.add_sub_cancel_left]; rfl)
        exact ⟨cellAt i0 0 rfl, cellAt i0 1 rfl, cellAt i0 2 rfl⟩
      have CbC_9 : Hid (∀ W (Q : List Res), Sep w (Q ++ bC) W → W.cell? ⟨p6 + 1, 0, none⟩ = some (.string ⟨#[]⟩) ∧ W.cell? ⟨p6 + 1, 1, none⟩ = some (.int .i64 0) ∧ W.cell? ⟨p6 + 1, 2, none⟩ = some (.int .i64 0) ∧ W.cell? ⟨p6 + 1, 3, none⟩ = some (.string ⟨#[]⟩) ∧ W.cell? ⟨p6 + 1, 4, none⟩ = some (.bool false)) := Lib.hid fun W Q T => by
        rw [hbC] at T
        have i0 := T.box (b := p6 + 1) (o := .cells #[.string ⟨#[]⟩, .int .i64 0, .int .i64 0, .string ⟨#[]⟩, .bool false] 38) (Q.length + 2) (by rw [List.getElem?_append_right (by omega), Nat.add_sub_cancel_left]; rfl)
        exact ⟨cellAt i0 0 rfl, cellAt i0 1 rfl, cellAt i0 2 rfl, cellAt i0 3 rfl, cellAt i0 4 rfl⟩
      have CbC_10 : Hid (∀ W (Q : List Res), Sep w (Q ++ bC) W → W.cell? ⟨p8, 0, none⟩ = some (.int .i64 1) ∧ W.cell? ⟨p8, 1, none⟩ = some (.int .i64 jG) ∧ W.cell? ⟨p8, 2, none⟩ = some (.string ⟨#[]⟩)) := Lib.hid fun W Q T => by
        rw [hbC] at T
        have i0 := T.box (b := p8) (o := .cells #[.int .i64 1, .int .i64 jG, .string ⟨#[]⟩] 29) (Q.length + 1) (by rw [List.getElem?_append_right (by omega), Nat.add_sub_cancel_left]; rfl)
        exact ⟨cellAt i0 0 rfl, cellAt i0 1 rfl, cellAt i0 2 rfl⟩
      have CbC_11 : Hid (∀ W (Q : List Res), Sep w (Q ++ bC) W → W.cell? ⟨p8 + 1, 0, none⟩ = some (.string ⟨#[]⟩) ∧ W.cell? ⟨p8 + 1, 1, none⟩ = some (.int .i64 0) ∧ W.cell? ⟨p8 + 1, 2, none⟩ = some (.int .i64 0) ∧ W.cell? ⟨p8 + 1, 3, none⟩ = some (.string ⟨#[]⟩) ∧ W.cell? ⟨p8 + 1, 4, none⟩ = some (.bool false)) := Lib.hid fun W Q T => by
        rw [hbC] at T
        have i0 := T.box (b := p8 + 1) (o := .cells #[.string ⟨#[]⟩, .int .i64 0, .int .i64 0, .string ⟨#[]⟩, .bool false] 38) (Q.length + 0) (by rw [List.getElem?_append_right (by omega), Nat.add_sub_cancel_left]; rfl)
        exact ⟨cellAt i0 0 rfl, cellAt i0 1 rfl, cellAt i0 2 rfl, cellAt i0 3 rfl, cellAt i0 4 rfl⟩
      have CbC_12 : Hid (∀ W (Q : List Res), Sep w (Q ++ bC) W → W.cell? ⟨qL1, 0, none⟩ = some (.int .i64 X0.kind) ∧ W.cell? ⟨qL1, 1, none⟩ = some (.int .i64 X0.n) ∧ W.cell? ⟨qL1, 2, none⟩ = some (.string X0.s) ∧ W.cell? ⟨qL1, 3, none⟩ = some (.int .i64 X1.kind) ∧ W.cell? ⟨qL1, 4, none⟩ = some (.int .i64 X1.n) ∧ W.cell? ⟨qL1, 5, none⟩ = some (.string X1.s) ∧ W.cell? ⟨qL1, 6, none⟩ = some (.int .i64 X2.kind) ∧ W.cell? ⟨qL1, 7, none⟩ = some (.int .i64 X2.n) ∧ W.cell? ⟨qL1, 8, none⟩ = some (.string X2.s) ∧ W.cell? ⟨qL1, 9, none⟩ = some (.int .i64 X3.kind) ∧ W.cell? ⟨qL1, 10, none⟩ = some (.int .i64 X3.n) ∧ W.cell? ⟨qL1, 11, none⟩ = some (.string X3.s)) := Lib.hid fun W Q T => by
        rw [hbC] at T
        have i0 := T.box (b := qL1) (o := .cells #[.int .i64 X0.kind, .int .i64 X0.n, .string X0.s, .int .i64 X1.kind, .int .i64 X1.n, .string X1.s, .int .i64 X2.kind, .int .i64 X2.n, .string X2.s, .int .i64 X3.kind, .int .i64 X3.n, .string X3.s] 36) (Q.length + 12) (by rw [List.getElem?_append_right (by omega), Nat.add_sub_cancel_left]; rfl)
        exact ⟨cellAt i0 0 rfl, cellAt i0 1 rfl, cellAt i0 2 rfl, cellAt i0 3 rfl, cellAt i0 4 rfl, cellAt i0 5 rfl, cellAt i0 6 rfl, cellAt i0 7 rfl, cellAt i0 8 rfl, cellAt i0 9 rfl, cellAt i0 10 rfl, cellAt i0 11 rfl⟩
      have KZ : Hid (∀ W (Q : List Res), Sep w (Q ++ bC) W → Calls Tryz.prog 19 #[excZ] W fun e W' => e = .returned (.bool true) ∧ Sep w (Q ++ bC) W') := Lib.hid fun W Q T => by
        exact (none_z W).mono fun e W' ⟨e1, e2⟩ => ⟨e1, T.later e2⟩
      have KY : Hid (∀ W (Q : List Res) (c : Bool), Sep w (Q ++ bC) W → Calls Tryz.prog 20 #[.bool c] W fun e W' => e = .returned (.agg #[.int .i64 1, .int .i64 (if c = true then 1 else 0), .string ⟨#[]⟩]) ∧ Sep w (Q ++ bC) W') := Lib.hid fun W Q c T => by
        exact (lyes_ok W c).mono fun e W' ⟨e1, e2⟩ => ⟨e1, T.later e2⟩
      have KT : Hid (∀ W (Q : List Res), Sep w (Q ++ bC) W → Calls Tryz.prog 18 #[.pointer (some ⟨h, 0, none⟩), .string ⟨#[60]⟩, .agg #[.int .i64 X0.kind, .int .i64 X0.n, .string X0.s], .agg #[.int .i64 X2.kind, .int .i64 X2.n, .string X2.s]] W fun e W' => e = .returned (.tuple #[.agg #[.int .i64 0, .int .i64 0, .string ⟨#[]⟩], excN typeError]) ∧ Sep w (Q ++ bC) W') := Lib.hid fun W Q T => by
        rw [HbC.out] at T ⊢
        exact cmp_lt T (Q.length + 13) (by rw [List.getElem?_append_right (by omega), Nat.add_sub_cancel_left]; rfl) X0 X2 _ (by rw [N02.out.1]; rfl)
      replace S := Lib.hid S
      clear hbC
      go_upto_region 16 with fail
      try simp only [hp8]
      go_cut [176] from 110 to 176 (fun s176 wx => s176 = .bool false ∧ Sep w bC wx)
      case first =>
        have S1 : Sep w ([] ++ bC) (((w15.alloc (.cells #[.int .i64 1, .int .i64 jG, .string ⟨#[]⟩] 29)).alloc (.cells #[.string ⟨#[]⟩, .int .i64 0, .int .i64 0, .string ⟨#[]⟩, .bool false] 38))) := by rw [HbC.out]; exact S.out
        clear S
        have NE : ∀ W, (binOp .neq 29 (.agg #[.int .i64 1, .int .i64 0, .string ⟨#[]⟩]) (.agg #[.int .i64 1, .int .i64 0, .string ⟨#[]⟩])).run Tryz.prog W = .ok (.bool false) W := fun W => by go_simp
        have NF : ∀ W, (binOp .neq 29 (.agg #[.int .i64 1, .int .i64 1, .string ⟨#[]⟩]) (.agg #[.int .i64 1, .int .i64 1, .string ⟨#[]⟩])).run Tryz.prog W = .ok (.bool false) W := fun W => by go_simp
        rcases HC.out with ⟨rfl, rfl, rfl, rfl, rfl⟩ | ⟨rfl, rfl, rfl, rfl, rfl⟩ | ⟨rfl, rfl, rfl, rfl, rfl⟩
        case inl =>
          as_aux_lemma =>
            obtain ⟨hbn, hbs, hiL, hiE, hiG, hjL, hjG⟩ := HN.out
            simp only [if_true, Bool.false_eq_true, if_false] at hiL hiE hiG hjL hjG
            subst hiL hiE hiG hjL hjG
            clear HN HC HO
            try simp only [List.append_eq, List.cons_append, List.nil_append]
            refine regionS (E := []) (base := bC) S1 ?_
            clear S1
            refine quietS 0 (hy := fun E Wx hSw => by ((obtain ⟨u0, u1, u2, u3, u4⟩ := CbC_3.out _ _ hSw); go_simp; exact ⟨rfl, hSw⟩)) (h := ?_)
            simp only [Act.put, List.setIfInBounds_toArray, List.set_cons_zero, List.set_cons_succ]
            refine quietS 1 (hy := fun E Wx hSw => by (go_simp; exact symCall (KZ.out _ _ hSw))) (h := ?_)
            simp only [Act.put, List.setIfInBounds_toArray, List.set_cons_zero, List.set_cons_succ]
            refine quietS 2 (hy := fun E Wx hSw => by (go_simp; exact ⟨rfl, hSw⟩)) (h := ?_)
            simp only [Act.put, List.setIfInBounds_toArray, List.set_cons_zero, List.set_cons_succ]
            refine quietS 3 (hy := fun E Wx hSw => by (go_simp; exact ⟨rfl, hSw⟩)) (h := ?_)
            simp only [Act.put, List.setIfInBounds_toArray, List.set_cons_zero, List.set_cons_succ]
            refine quietS 4 (hy := fun E Wx hSw => by ((obtain ⟨u0, u1, u2, u3, u4⟩ := CbC_5.out _ _ hSw); go_simp; exact ⟨rfl, hSw⟩)) (h := ?_)
            simp only [Act.put, List.setIfInBounds_toArray, List.set_cons_zero, List.set_cons_succ]
            refine quietS 5 (hy := fun E Wx hSw => by (go_simp; exact symCall (KZ.out _ _ hSw))) (h := ?_)
            simp only [Act.put, List.setIfInBounds_toArray, List.set_cons_zero, List.set_cons_succ]
            refine quietS 6 (hy := fun E Wx hSw => by (go_simp; exact ⟨rfl, hSw⟩)) (h := ?_)
            simp only [Act.put, List.setIfInBounds_toArray, List.set_cons_zero, List.set_cons_succ]
            refine quietS 7 (hy := fun E Wx hSw => by (go_simp; exact ⟨rfl, hSw⟩)) (h := ?_)
            simp only [Act.put, List.setIfInBounds_toArray, List.set_cons_zero, List.set_cons_succ]
            refine quietS 8 (hy := fun E Wx hSw => by (go_simp; exact ⟨rfl, hSw⟩)) (h := ?_)
            simp only [Act.put, List.setIfInBounds_toArray, List.set_cons_zero, List.set_cons_succ]
            refine quietS 9 (hy := fun E Wx hSw => by ((obtain ⟨u0, u1, u2, u3, u4⟩ := CbC_7.out _ _ hSw); go_simp; exact ⟨rfl, hSw⟩)) (h := ?_)
            simp only [Act.put, List.setIfInBounds_toArray, List.set_cons_zero, List.set_cons_succ]
            refine quietS 10 (hy := fun E Wx hSw => by (go_simp; exact symCall (KZ.out _ _ hSw))) (h := ?_)
            simp only [Act.put, List.setIfInBounds_toArray, List.set_cons_zero, List.set_cons_succ]
            refine quietS 11 (hy := fun E Wx hSw => by (go_simp; exact ⟨rfl, hSw⟩)) (h := ?_)
            simp only [Act.put, List.setIfInBounds_toArray, List.set_cons_zero, List.set_cons_succ]
            refine quietS 12 (hy := fun E Wx hSw => by (go_simp; exact ⟨rfl, hSw⟩)) (h := ?_)
            simp only [Act.put, List.setIfInBounds_toArray, List.set_cons_zero, List.set_cons_succ]
            refine quietS 13 (hy := fun E Wx hSw => by (go_simp; exact ⟨rfl, hSw⟩)) (h := ?_)
            simp only [Act.put, List.setIfInBounds_toArray, List.set_cons_zero, List.set_cons_succ]
            refine quietS 14 (hy := fun E Wx hSw => by ((obtain ⟨u0, u1, u2, u3, u4⟩ := CbC_9.out _ _ hSw); go_simp; exact ⟨rfl, hSw⟩)) (h := ?_)
            simp only [Act.put, List.setIfInBounds_toArray, List.set_cons_zero, List.set_cons_succ]
            refine quietS 15 (hy := fun E Wx hSw => by (go_simp; exact symCall (KZ.out _ _ hSw))) (h := ?_)
            simp only [Act.put, List.setIfInBounds_toArray, List.set_cons_zero, List.set_cons_succ]
            refine quietS 16 (hy := fun E Wx hSw => by (go_simp; exact ⟨rfl, hSw⟩)) (h := ?_)
            simp only [Act.put, List.setIfInBounds_toArray, List.set_cons_zero, List.set_cons_succ]
            refine quietS 17 (hy := fun E Wx hSw => by (go_simp; exact ⟨rfl, hSw⟩)) (h := ?_)
            simp only [Act.put, List.setIfInBounds_toArray, List.set_cons_zero, List.set_cons_succ]
            refine quietS 18 (hy := fun E Wx hSw => by (go_simp; exact ⟨rfl, hSw⟩)) (h := ?_)
            simp only [Act.put, List.setIfInBounds_toArray, List.set_cons_zero, List.set_cons_succ]
            refine quietS 19 (hy := fun E Wx hSw => by ((obtain ⟨u0, u1, u2, u3, u4⟩ := CbC_11.out _ _ hSw); go_simp; exact ⟨rfl, hSw⟩)) (h := ?_)
            simp only [Act.put, List.setIfInBounds_toArray, List.set_cons_zero, List.set_cons_succ]
            refine quietS 20 (hy := fun E Wx hSw => by (go_simp; exact symCall (KZ.out _ _ hSw))) (h := ?_)
            simp only [Act.put, List.setIfInBounds_toArray, List.set_cons_zero, List.set_cons_succ]
            refine quietS 21 (hy := fun E Wx hSw => by (go_simp; exact ⟨rfl, hSw⟩)) (h := ?_)
            simp only [Act.put, List.setIfInBounds_toArray, List.set_cons_zero, List.set_cons_succ]
            refine quietS 22 (hy := fun E Wx hSw => by (go_simp; exact ⟨rfl, hSw⟩)) (h := ?_)
            simp only [Act.put, List.setIfInBounds_toArray, List.set_cons_zero, List.set_cons_succ]
            refine quietS 23 (hy := fun E Wx hSw => by (go_simp; exact ⟨rfl, hSw⟩)) (h := ?_)
            simp only [Act.put, List.setIfInBounds_toArray, List.set_cons_zero, List.set_cons_succ]
            refine quietS 24 (hy := fun E Wx hSw => by (go_simp; exact ⟨rfl, hSw⟩)) (h := ?_)
            simp only [Act.put, List.setIfInBounds_toArray, List.set_cons_zero, List.set_cons_succ]
            refine quietS 25 (hy := fun E Wx hSw => by ((obtain ⟨u0, u1, u2⟩ := CbC_2.out _ _ hSw); go_simp; exact ⟨rfl, hSw⟩)) (h := ?_)
            simp only [Act.put, List.setIfInBounds_toArray, List.set_cons_zero, List.set_cons_succ]
            refine quietS 26 (hy := fun E Wx hSw => by (go_simp; exact ⟨rfl, hSw⟩)) (h := ?_)
            simp only [Act.put, List.setIfInBounds_toArray, List.set_cons_zero, List.set_cons_succ]
            refine quietS 27 (hy := fun E Wx hSw => by ((obtain ⟨u0, u1, u2⟩ := CbC_4.out _ _ hSw); go_simp; exact ⟨rfl, hSw⟩)) (h := ?_)
            simp only [Act.put, List.setIfInBounds_toArray, List.set_cons_zero, List.set_cons_succ]
            refine quietS 28 (hy := fun E Wx hSw => by (go_simp; exact ⟨rfl, hSw⟩)) (h := ?_)
            simp only [Act.put, List.setIfInBounds_toArray, List.set_cons_zero, List.set_cons_succ]
            refine quietS 29 (hy := fun E Wx hSw => by (go_simp; exact ⟨rfl, hSw⟩)) (h := ?_)
            simp only [Act.put, List.setIfInBounds_toArray, List.set_cons_zero, List.set_cons_succ]
            refine quietS 30 (hy := fun E Wx hSw => by ((obtain ⟨u0, u1, u2⟩ := CbC_6.out _ _ hSw); go_simp; exact ⟨rfl, hSw⟩)) (h := ?_)
            simp only [Act.put, List.setIfInBounds_toArray, List.set_cons_zero, List.set_cons_succ]
            refine quietS 31 (hy := fun E Wx hSw => by (go_simp; exact ⟨rfl, hSw⟩)) (h := ?_)
            simp only [Act.put, List.setIfInBounds_toArray, List.set_cons_zero, List.set_cons_succ]
            refine quietS 32 (hy := fun E Wx hSw => by (go_simp; exact ⟨rfl, hSw⟩)) (h := ?_)
            simp only [Act.put, List.setIfInBounds_toArray, List.set_cons_zero, List.set_cons_succ]
            refine quietS 33 (hy := fun E Wx hSw => by (go_simp; exact ⟨rfl, hSw⟩)) (h := ?_)
            simp only [Act.put, List.setIfInBounds_toArray, List.set_cons_zero, List.set_cons_succ]
            refine quietS 34 (hy := fun E Wx hSw => by (go_simp; exact ⟨rfl, hSw⟩)) (h := ?_)
            simp only [Act.put, List.setIfInBounds_toArray, List.set_cons_zero, List.set_cons_succ]
            refine quietS 35 (hy := fun E Wx hSw => by ((obtain ⟨u0, u1, u2⟩ := CbC_8.out _ _ hSw); go_simp; exact ⟨rfl, hSw⟩)) (h := ?_)
            simp only [Act.put, List.setIfInBounds_toArray, List.set_cons_zero, List.set_cons_succ]
            refine quietS 36 (hy := fun E Wx hSw => by (go_simp; exact ⟨rfl, hSw⟩)) (h := ?_)
            simp only [Act.put, List.setIfInBounds_toArray, List.set_cons_zero, List.set_cons_succ]
            refine quietS 37 (hy := fun E Wx hSw => by ((obtain ⟨u0, u1, u2⟩ := CbC_4.out _ _ hSw); go_simp; exact ⟨rfl, hSw⟩)) (h := ?_)
            simp only [Act.put, List.setIfInBounds_toArray, List.set_cons_zero, List.set_cons_succ]
            refine quietS 38 (hy := fun E Wx hSw => by (go_simp; exact ⟨rfl, hSw⟩)) (h := ?_)
            simp only [Act.put, List.setIfInBounds_toArray, List.set_cons_zero, List.set_cons_succ]
            refine quietS 39 (hy := fun E Wx hSw => by (go_simp; exact symCall (KY.out _ _ _ hSw))) (h := ?_)
            simp only [Act.put, List.setIfInBounds_toArray, List.set_cons_zero, List.set_cons_succ]
            refine quietS 40 (hy := fun E Wx hSw => by (go_simp; exact ⟨rfl, hSw⟩)) (h := ?_)
            simp only [Act.put, List.setIfInBounds_toArray, List.set_cons_zero, List.set_cons_succ]
            refine quietS 41 (hy := fun E Wx hSw => by (go_simp; exact ⟨rfl, hSw⟩)) (h := ?_)
            simp only [Act.put, List.setIfInBounds_toArray, List.set_cons_zero, List.set_cons_succ]
            refine quietS 42 (hy := fun E Wx hSw => by (go_simp; exact ⟨rfl, hSw⟩)) (h := ?_)
            simp only [Act.put, List.setIfInBounds_toArray, List.set_cons_zero, List.set_cons_succ]
            refine quietS 43 (hy := fun E Wx hSw => by ((obtain ⟨u0, u1, u2⟩ := CbC_10.out _ _ hSw); go_simp; exact ⟨rfl, hSw⟩)) (h := ?_)
            simp only [Act.put, List.setIfInBounds_toArray, List.set_cons_zero, List.set_cons_succ]
            refine quietS 44 (hy := fun E Wx hSw => by (go_simp; exact ⟨rfl, hSw⟩)) (h := ?_)
            simp only [Act.put, List.setIfInBounds_toArray, List.set_cons_zero, List.set_cons_succ]
            refine quietS 45 (hy := fun E Wx hSw => by ((obtain ⟨u0, u1, u2⟩ := CbC_2.out _ _ hSw); go_simp; exact ⟨rfl, hSw⟩)) (h := ?_)
            simp only [Act.put, List.setIfInBounds_toArray, List.set_cons_zero, List.set_cons_succ]
            refine quietS 46 (hy := fun E Wx hSw => by (go_simp; exact ⟨rfl, hSw⟩)) (h := ?_)
            simp only [Act.put, List.setIfInBounds_toArray, List.set_cons_zero, List.set_cons_succ]
            refine quietS 47 (hy := fun E Wx hSw => by (go_simp; exact symCall (KY.out _ _ _ hSw))) (h := ?_)
            simp only [Act.put, List.setIfInBounds_toArray, List.set_cons_zero, List.set_cons_succ]
            refine quietS 48 (hy := fun E Wx hSw => by (go_simp; exact ⟨rfl, hSw⟩)) (h := ?_)
            simp only [Act.put, List.setIfInBounds_toArray, List.set_cons_zero, List.set_cons_succ]
            refine quietS 49 (hy := fun E Wx hSw => by (go_simp; exact ⟨rfl, hSw⟩)) (h := ?_)
            simp only [Act.put, List.setIfInBounds_toArray, List.set_cons_zero, List.set_cons_succ]
            refine quietS 50 (hy := fun E Wx hSw => by (go_simp; exact ⟨rfl, hSw⟩)) (h := ?_)
            simp only [Act.put, List.setIfInBounds_toArray, List.set_cons_zero, List.set_cons_succ]
            refine quietS 51 (hy := fun E Wx hSw => by ((obtain ⟨u0, u1, u2⟩ := CbC_2.out _ _ hSw); go_simp; exact ⟨rfl, hSw⟩)) (h := ?_)
            simp only [Act.put, List.setIfInBounds_toArray, List.set_cons_zero, List.set_cons_succ]
            refine quietS 52 (hy := fun E Wx hSw => by (go_simp; exact ⟨rfl, hSw⟩)) (h := ?_)
            simp only [Act.put, List.setIfInBounds_toArray, List.set_cons_zero, List.set_cons_succ]
            refine quietS 53 (hy := fun E Wx hSw => by ((obtain ⟨u0, u1, u2⟩ := CbC_0.out _ _ hSw); go_simp; exact ⟨rfl, hSw⟩)) (h := ?_)
            simp only [Act.put, List.setIfInBounds_toArray, List.set_cons_zero, List.set_cons_succ]
            refine quietS 54 (hy := fun E Wx hSw => by (go_simp; exact ⟨rfl, hSw⟩)) (h := ?_)
            simp only [Act.put, List.setIfInBounds_toArray, List.set_cons_zero, List.set_cons_succ]
            refine quietS 55 (hy := fun E Wx hSw => by ((obtain ⟨u0, u1, u2⟩ := CbC_1.out _ _ hSw); go_simp; exact ⟨rfl, hSw⟩)) (h := ?_)
            simp only [Act.put, List.setIfInBounds_toArray, List.set_cons_zero, List.set_cons_succ]
            refine quietS 56 (hy := fun E Wx hSw => by (go_simp; exact ⟨rfl, hSw⟩)) (h := ?_)
            simp only [Act.put, List.setIfInBounds_toArray, List.set_cons_zero, List.set_cons_succ]
            refine quietS 57 (hy := fun E Wx hSw => by (go_simp; exact ⟨rfl, hSw⟩)) (h := ?_)
            simp only [Act.put, List.setIfInBounds_toArray, List.set_cons_zero, List.set_cons_succ]
            refine skipS 58 ?_
            simp only [Act.put, List.setIfInBounds_toArray, List.set_cons_zero, List.set_cons_succ]
            refine skipS 59 ?_
            simp only [Act.put, List.setIfInBounds_toArray, List.set_cons_zero, List.set_cons_succ]
            refine skipS 60 ?_
            simp only [Act.put, List.setIfInBounds_toArray, List.set_cons_zero, List.set_cons_succ]
            refine skipS 61 ?_
            simp only [Act.put, List.setIfInBounds_toArray, List.set_cons_zero, List.set_cons_succ]
            refine skipS 62 ?_
            simp only [Act.put, List.setIfInBounds_toArray, List.set_cons_zero, List.set_cons_succ]
            refine quietS 63 (hy := fun E Wx hSw => by (go_simp; exact ⟨rfl, hSw⟩)) (h := ?_)
            simp only [Act.put, List.setIfInBounds_toArray, List.set_cons_zero, List.set_cons_succ]
            refine quietS 64 (hy := fun E Wx hSw => by (go_simp; exact symCall (KY.out _ _ _ hSw))) (h := ?_)
            simp only [Act.put, List.setIfInBounds_toArray, List.set_cons_zero, List.set_cons_succ]
            refine quietS 65 (hy := fun E Wx hSw => by (go_simp; exact ⟨rfl, hSw⟩)) (h := ?_)
            simp only [Act.put, List.setIfInBounds_toArray, List.set_cons_zero, List.set_cons_succ]
            refine quietS 66 (hy := fun E Wx hSw => by (go_simp; exact ⟨rfl, hSw⟩)) (h := ?_)
            simp only [Act.put, List.setIfInBounds_toArray, List.set_cons_zero, List.set_cons_succ]
            refine doneS (h := fun wq S => ?_)
            go_wp2_with fail
            go_meet
            exact ⟨rfl, S⟩
        case inr.inl =>
          as_aux_lemma =>
            obtain ⟨hbn, hbs, hiL, hiE, hiG, hjL, hjG⟩ := HN.out
            simp only [if_true, Bool.false_eq_true, if_false] at hiL hiE hiG hjL hjG
            subst hiL hiE hiG hjL hjG
            clear HN HC HO
            try simp only [List.append_eq, List.cons_append, List.nil_append]
            refine regionS (E := []) (base := bC) S1 ?_
            clear S1
            refine quietS 0 (hy := fun E Wx hSw => by ((obtain ⟨u0, u1, u2, u3, u4⟩ := CbC_3.out _ _ hSw); go_simp; exact ⟨rfl, hSw⟩)) (h := ?_)
            simp only [Act.put, List.setIfInBounds_toArray, List.set_cons_zero, List.set_cons_succ]
            refine quietS 1 (hy := fun E Wx hSw => by (go_simp; exact symCall (KZ.out _ _ hSw))) (h := ?_)
            simp only [Act.put, List.setIfInBounds_toArray, List.set_cons_zero, List.set_cons_succ]
            refine quietS 2 (hy := fun E Wx hSw => by (go_simp; exact ⟨rfl, hSw⟩)) (h := ?_)
            simp only [Act.put, List.setIfInBounds_toArray, List.set_cons_zero, List.set_cons_succ]
            refine quietS 3 (hy := fun E Wx hSw => by (go_simp; exact ⟨rfl, hSw⟩)) (h := ?_)
            simp only [Act.put, List.setIfInBounds_toArray, List.set_cons_zero, List.set_cons_succ]
            refine quietS 4 (hy := fun E Wx hSw => by ((obtain ⟨u0, u1, u2, u3, u4⟩ := CbC_5.out _ _ hSw); go_simp; exact ⟨rfl, hSw⟩)) (h := ?_)
            simp only [Act.put, List.setIfInBounds_toArray, List.set_cons_zero, List.set_cons_succ]
            refine quietS 5 (hy := fun E Wx hSw => by (go_simp; exact symCall (KZ.out _ _ hSw))) (h := ?_)
            simp only [Act.put, List.setIfInBounds_toArray, List.set_cons_zero, List.set_cons_succ]
            refine quietS 6 (hy := fun E Wx hSw => by (go_simp; exact ⟨rfl, hSw⟩)) (h := ?_)
            simp only [Act.put, List.setIfInBounds_toArray, List.set_cons_zero, List.set_cons_succ]
            refine quietS 7 (hy := fun E Wx hSw => by (go_simp; exact ⟨rfl, hSw⟩)) (h := ?_)
            simp only [Act.put, List.setIfInBounds_toArray, List.set_cons_zero, List.set_cons_succ]
            refine quietS 8 (hy := fun E Wx hSw => by (go_simp; exact ⟨rfl, hSw⟩)) (h := ?_)
            simp only [Act.put, List.setIfInBounds_toArray, List.set_cons_zero, List.set_cons_succ]
            refine quietS 9 (hy := fun E Wx hSw => by ((obtain ⟨u0, u1, u2, u3, u4⟩ := CbC_7.out _ _ hSw); go_simp; exact ⟨rfl, hSw⟩)) (h := ?_)
            simp only [Act.put, List.setIfInBounds_toArray, List.set_cons_zero, List.set_cons_succ]
            refine quietS 10 (hy := fun E Wx hSw => by (go_simp; exact symCall (KZ.out _ _ hSw))) (h := ?_)
            simp only [Act.put, List.setIfInBounds_toArray, List.set_cons_zero, List.set_cons_succ]
            refine quietS 11 (hy := fun E Wx hSw => by (go_simp; exact ⟨rfl, hSw⟩)) (h := ?_)
            simp only [Act.put, List.setIfInBounds_toArray, List.set_cons_zero, List.set_cons_succ]
            refine quietS 12 (hy := fun E Wx hSw => by (go_simp; exact ⟨rfl, hSw⟩)) (h := ?_)
            simp only [Act.put, List.setIfInBounds_toArray, List.set_cons_zero, List.set_cons_succ]
            refine quietS 13 (hy := fun E Wx hSw => by (go_simp; exact ⟨rfl, hSw⟩)) (h := ?_)
            simp only [Act.put, List.setIfInBounds_toArray, List.set_cons_zero, List.set_cons_succ]
            refine quietS 14 (hy := fun E Wx hSw => by ((obtain ⟨u0, u1, u2, u3, u4⟩ := CbC_9.out _ _ hSw); go_simp; exact ⟨rfl, hSw⟩)) (h := ?_)
            simp only [Act.put, List.setIfInBounds_toArray, List.set_cons_zero, List.set_cons_succ]
            refine quietS 15 (hy := fun E Wx hSw => by (go_simp; exact symCall (KZ.out _ _ hSw))) (h := ?_)
            simp only [Act.put, List.setIfInBounds_toArray, List.set_cons_zero, List.set_cons_succ]
            refine quietS 16 (hy := fun E Wx hSw => by (go_simp; exact ⟨rfl, hSw⟩)) (h := ?_)
            simp only [Act.put, List.setIfInBounds_toArray, List.set_cons_zero, List.set_cons_succ]
            refine quietS 17 (hy := fun E Wx hSw => by (go_simp; exact ⟨rfl, hSw⟩)) (h := ?_)
            simp only [Act.put, List.setIfInBounds_toArray, List.set_cons_zero, List.set_cons_succ]
            refine quietS 18 (hy := fun E Wx hSw => by (go_simp; exact ⟨rfl, hSw⟩)) (h := ?_)
            simp only [Act.put, List.setIfInBounds_toArray, List.set_cons_zero, List.set_cons_succ]
            refine quietS 19 (hy := fun E Wx hSw => by ((obtain ⟨u0, u1, u2, u3, u4⟩ := CbC_11.out _ _ hSw); go_simp; exact ⟨rfl, hSw⟩)) (h := ?_)
            simp only [Act.put, List.setIfInBounds_toArray, List.set_cons_zero, List.set_cons_succ]
            refine quietS 20 (hy := fun E Wx hSw => by (go_simp; exact symCall (KZ.out _ _ hSw))) (h := ?_)
            simp only [Act.put, List.setIfInBounds_toArray, List.set_cons_zero, List.set_cons_succ]
            refine quietS 21 (hy := fun E Wx hSw => by (go_simp; exact ⟨rfl, hSw⟩)) (h := ?_)
            simp only [Act.put, List.setIfInBounds_toArray, List.set_cons_zero, List.set_cons_succ]
            refine quietS 22 (hy := fun E Wx hSw => by (go_simp; exact ⟨rfl, hSw⟩)) (h := ?_)
            simp only [Act.put, List.setIfInBounds_toArray, List.set_cons_zero, List.set_cons_succ]
            refine quietS 23 (hy := fun E Wx hSw => by (go_simp; exact ⟨rfl, hSw⟩)) (h := ?_)
            simp only [Act.put, List.setIfInBounds_toArray, List.set_cons_zero, List.set_cons_succ]
            refine quietS 24 (hy := fun E Wx hSw => by (go_simp; exact ⟨rfl, hSw⟩)) (h := ?_)
            simp only [Act.put, List.setIfInBounds_toArray, List.set_cons_zero, List.set_cons_succ]
            refine quietS 25 (hy := fun E Wx hSw => by ((obtain ⟨u0, u1, u2⟩ := CbC_2.out _ _ hSw); go_simp; exact ⟨rfl, hSw⟩)) (h := ?_)
            simp only [Act.put, List.setIfInBounds_toArray, List.set_cons_zero, List.set_cons_succ]
            refine quietS 26 (hy := fun E Wx hSw => by (go_simp; exact ⟨rfl, hSw⟩)) (h := ?_)
            simp only [Act.put, List.setIfInBounds_toArray, List.set_cons_zero, List.set_cons_succ]
            refine quietS 27 (hy := fun E Wx hSw => by ((obtain ⟨u0, u1, u2⟩ := CbC_4.out _ _ hSw); go_simp; exact ⟨rfl, hSw⟩)) (h := ?_)
            simp only [Act.put, List.setIfInBounds_toArray, List.set_cons_zero, List.set_cons_succ]
            refine quietS 28 (hy := fun E Wx hSw => by (go_simp; exact ⟨rfl, hSw⟩)) (h := ?_)
            simp only [Act.put, List.setIfInBounds_toArray, List.set_cons_zero, List.set_cons_succ]
            refine quietS 29 (hy := fun E Wx hSw => by (go_simp; exact ⟨rfl, hSw⟩)) (h := ?_)
            simp only [Act.put, List.setIfInBounds_toArray, List.set_cons_zero, List.set_cons_succ]
            refine quietS 30 (hy := fun E Wx hSw => by ((obtain ⟨u0, u1, u2⟩ := CbC_6.out _ _ hSw); go_simp; exact ⟨rfl, hSw⟩)) (h := ?_)
            simp only [Act.put, List.setIfInBounds_toArray, List.set_cons_zero, List.set_cons_succ]
            refine quietS 31 (hy := fun E Wx hSw => by (go_simp; exact ⟨rfl, hSw⟩)) (h := ?_)
            simp only [Act.put, List.setIfInBounds_toArray, List.set_cons_zero, List.set_cons_succ]
            refine quietS 32 (hy := fun E Wx hSw => by (go_simp; exact ⟨rfl, hSw⟩)) (h := ?_)
            simp only [Act.put, List.setIfInBounds_toArray, List.set_cons_zero, List.set_cons_succ]
            refine quietS 33 (hy := fun E Wx hSw => by (go_simp; exact ⟨rfl, hSw⟩)) (h := ?_)
            simp only [Act.put, List.setIfInBounds_toArray, List.set_cons_zero, List.set_cons_succ]
            refine quietS 34 (hy := fun E Wx hSw => by (go_simp; exact ⟨rfl, hSw⟩)) (h := ?_)
            simp only [Act.put, List.setIfInBounds_toArray, List.set_cons_zero, List.set_cons_succ]
            refine quietS 35 (hy := fun E Wx hSw => by ((obtain ⟨u0, u1, u2⟩ := CbC_8.out _ _ hSw); go_simp; exact ⟨rfl, hSw⟩)) (h := ?_)
            simp only [Act.put, List.setIfInBounds_toArray, List.set_cons_zero, List.set_cons_succ]
            refine quietS 36 (hy := fun E Wx hSw => by (go_simp; exact ⟨rfl, hSw⟩)) (h := ?_)
            simp only [Act.put, List.setIfInBounds_toArray, List.set_cons_zero, List.set_cons_succ]
            refine quietS 37 (hy := fun E Wx hSw => by ((obtain ⟨u0, u1, u2⟩ := CbC_4.out _ _ hSw); go_simp; exact ⟨rfl, hSw⟩)) (h := ?_)
            simp only [Act.put, List.setIfInBounds_toArray, List.set_cons_zero, List.set_cons_succ]
            refine quietS 38 (hy := fun E Wx hSw => by (go_simp; exact ⟨rfl, hSw⟩)) (h := ?_)
            simp only [Act.put, List.setIfInBounds_toArray, List.set_cons_zero, List.set_cons_succ]
            refine quietS 39 (hy := fun E Wx hSw => by (go_simp; exact symCall (KY.out _ _ _ hSw))) (h := ?_)
            simp only [Act.put, List.setIfInBounds_toArray, List.set_cons_zero, List.set_cons_succ]
            refine quietS 40 (hy := fun E Wx hSw => by (go_simp; exact ⟨rfl, hSw⟩)) (h := ?_)
            simp only [Act.put, List.setIfInBounds_toArray, List.set_cons_zero, List.set_cons_succ]
            refine quietS 41 (hy := fun E Wx hSw => by (go_simp; exact ⟨rfl, hSw⟩)) (h := ?_)
            simp only [Act.put, List.setIfInBounds_toArray, List.set_cons_zero, List.set_cons_succ]
            refine quietS 42 (hy := fun E Wx hSw => by (go_simp; exact ⟨rfl, hSw⟩)) (h := ?_)
            simp only [Act.put, List.setIfInBounds_toArray, List.set_cons_zero, List.set_cons_succ]
            refine quietS 43 (hy := fun E Wx hSw => by ((obtain ⟨u0, u1, u2⟩ := CbC_10.out _ _ hSw); go_simp; exact ⟨rfl, hSw⟩)) (h := ?_)
            simp only [Act.put, List.setIfInBounds_toArray, List.set_cons_zero, List.set_cons_succ]
            refine quietS 44 (hy := fun E Wx hSw => by (go_simp; exact ⟨rfl, hSw⟩)) (h := ?_)
            simp only [Act.put, List.setIfInBounds_toArray, List.set_cons_zero, List.set_cons_succ]
            refine quietS 45 (hy := fun E Wx hSw => by ((obtain ⟨u0, u1, u2⟩ := CbC_2.out _ _ hSw); go_simp; exact ⟨rfl, hSw⟩)) (h := ?_)
            simp only [Act.put, List.setIfInBounds_toArray, List.set_cons_zero, List.set_cons_succ]
            refine quietS 46 (hy := fun E Wx hSw => by (go_simp; exact ⟨rfl, hSw⟩)) (h := ?_)
            simp only [Act.put, List.setIfInBounds_toArray, List.set_cons_zero, List.set_cons_succ]
            refine quietS 47 (hy := fun E Wx hSw => by (go_simp; exact symCall (KY.out _ _ _ hSw))) (h := ?_)
            simp only [Act.put, List.setIfInBounds_toArray, List.set_cons_zero, List.set_cons_succ]
            refine quietS 48 (hy := fun E Wx hSw => by (go_simp; exact ⟨rfl, hSw⟩)) (h := ?_)
            simp only [Act.put, List.setIfInBounds_toArray, List.set_cons_zero, List.set_cons_succ]
            refine quietS 49 (hy := fun E Wx hSw => by (go_simp; exact ⟨rfl, hSw⟩)) (h := ?_)
            simp only [Act.put, List.setIfInBounds_toArray, List.set_cons_zero, List.set_cons_succ]
            refine quietS 50 (hy := fun E Wx hSw => by (go_simp; exact ⟨rfl, hSw⟩)) (h := ?_)
            simp only [Act.put, List.setIfInBounds_toArray, List.set_cons_zero, List.set_cons_succ]
            refine quietS 51 (hy := fun E Wx hSw => by ((obtain ⟨u0, u1, u2⟩ := CbC_2.out _ _ hSw); go_simp; exact ⟨rfl, hSw⟩)) (h := ?_)
            simp only [Act.put, List.setIfInBounds_toArray, List.set_cons_zero, List.set_cons_succ]
            refine quietS 52 (hy := fun E Wx hSw => by (go_simp; exact ⟨rfl, hSw⟩)) (h := ?_)
            simp only [Act.put, List.setIfInBounds_toArray, List.set_cons_zero, List.set_cons_succ]
            refine quietS 53 (hy := fun E Wx hSw => by ((obtain ⟨u0, u1, u2⟩ := CbC_0.out _ _ hSw); go_simp; exact ⟨rfl, hSw⟩)) (h := ?_)
            simp only [Act.put, List.setIfInBounds_toArray, List.set_cons_zero, List.set_cons_succ]
            refine quietS 54 (hy := fun E Wx hSw => by (go_simp; exact ⟨rfl, hSw⟩)) (h := ?_)
            simp only [Act.put, List.setIfInBounds_toArray, List.set_cons_zero, List.set_cons_succ]
            refine quietS 55 (hy := fun E Wx hSw => by ((obtain ⟨u0, u1, u2⟩ := CbC_1.out _ _ hSw); go_simp; exact ⟨rfl, hSw⟩)) (h := ?_)
            simp only [Act.put, List.setIfInBounds_toArray, List.set_cons_zero, List.set_cons_succ]
            refine quietS 56 (hy := fun E Wx hSw => by (go_simp; exact ⟨rfl, hSw⟩)) (h := ?_)
            simp only [Act.put, List.setIfInBounds_toArray, List.set_cons_zero, List.set_cons_succ]
            refine quietS 57 (hy := fun E Wx hSw => by (go_simp; exact ⟨rfl, hSw⟩)) (h := ?_)
            simp only [Act.put, List.setIfInBounds_toArray, List.set_cons_zero, List.set_cons_succ]
            refine quietS 58 (hy := fun E Wx hSw => by (go_simp; exact ⟨rfl, hSw⟩)) (h := ?_)
            simp only [Act.put, List.setIfInBounds_toArray, List.set_cons_zero, List.set_cons_succ]
            refine quietS 59 (hy := fun E Wx hSw => by ((obtain ⟨u0, u1, u2⟩ := CbC_0.out _ _ hSw); go_simp; exact ⟨rfl, hSw⟩)) (h := ?_)
            simp only [Act.put, List.setIfInBounds_toArray, List.set_cons_zero, List.set_cons_succ]
            refine quietS 60 (hy := fun E Wx hSw => by (go_simp; exact ⟨rfl, hSw⟩)) (h := ?_)
            simp only [Act.put, List.setIfInBounds_toArray, List.set_cons_zero, List.set_cons_succ]
            refine quietS 61 (hy := fun E Wx hSw => by ((obtain ⟨u0, u1, u2⟩ := CbC_1.out _ _ hSw); go_simp; exact ⟨rfl, hSw⟩)) (h := ?_)
            simp only [Act.put, List.setIfInBounds_toArray, List.set_cons_zero, List.set_cons_succ]
            refine quietS 62 (hy := fun E Wx hSw => by (go_simp; exact ⟨rfl, hSw⟩)) (h := ?_)
            simp only [Act.put, List.setIfInBounds_toArray, List.set_cons_zero, List.set_cons_succ]
            refine quietS 63 (hy := fun E Wx hSw => by (go_simp; exact ⟨rfl, hSw⟩)) (h := ?_)
            simp only [Act.put, List.setIfInBounds_toArray, List.set_cons_zero, List.set_cons_succ]
            refine quietS 64 (hy := fun E Wx hSw => by (go_simp; exact symCall (KY.out _ _ _ hSw))) (h := ?_)
            simp only [Act.put, List.setIfInBounds_toArray, List.set_cons_zero, List.set_cons_succ]
            refine quietS 65 (hy := fun E Wx hSw => by (go_simp; exact ⟨rfl, hSw⟩)) (h := ?_)
            simp only [Act.put, List.setIfInBounds_toArray, List.set_cons_zero, List.set_cons_succ]
            refine quietS 66 (hy := fun E Wx hSw => by (go_simp; exact ⟨rfl, hSw⟩)) (h := ?_)
            simp only [Act.put, List.setIfInBounds_toArray, List.set_cons_zero, List.set_cons_succ]
            refine doneS (h := fun wq S => ?_)
            go_wp2_with fail
            go_meet
            exact ⟨rfl, S⟩
        case inr.inr =>
          as_aux_lemma =>
            obtain ⟨hbn, hbs, hiL, hiE, hiG, hjL, hjG⟩ := HN.out
            simp only [if_true, Bool.false_eq_true, if_false] at hiL hiE hiG hjL hjG
            subst hiL hiE hiG hjL hjG
            clear HN HC HO
            try simp only [List.append_eq, List.cons_append, List.nil_append]
            refine regionS (E := []) (base := bC) S1 ?_
            clear S1
            refine quietS 0 (hy := fun E Wx hSw => by ((obtain ⟨u0, u1, u2, u3, u4⟩ := CbC_3.out _ _ hSw); go_simp; exact ⟨rfl, hSw⟩)) (h := ?_)
            simp only [Act.put, List.setIfInBounds_toArray, List.set_cons_zero, List.set_cons_succ]
            refine quietS 1 (hy := fun E Wx hSw => by (go_simp; exact symCall (KZ.out _ _ hSw))) (h := ?_)
            simp only [Act.put, List.setIfInBounds_toArray, List.set_cons_zero, List.set_cons_succ]
            refine quietS 2 (hy := fun E Wx hSw => by (go_simp; exact ⟨rfl, hSw⟩)) (h := ?_)
            simp only [Act.put, List.setIfInBounds_toArray, List.set_cons_zero, List.set_cons_succ]
            refine quietS 3 (hy := fun E Wx hSw => by (go_simp; exact ⟨rfl, hSw⟩)) (h := ?_)
            simp only [Act.put, List.setIfInBounds_toArray, List.set_cons_zero, List.set_cons_succ]
            refine quietS 4 (hy := fun E Wx hSw => by ((obtain ⟨u0, u1, u2, u3, u4⟩ := CbC_5.out _ _ hSw); go_simp; exact ⟨rfl, hSw⟩)) (h := ?_)
            simp only [Act.put, List.setIfInBounds_toArray, List.set_cons_zero, List.set_cons_succ]
            refine quietS 5 (hy := fun E Wx hSw => by (go_simp; exact symCall (KZ.out _ _ hSw))) (h := ?_)
            simp only [Act.put, List.setIfInBounds_toArray, List.set_cons_zero, List.set_cons_succ]
            refine quietS 6 (hy := fun E Wx hSw => by (go_simp; exact ⟨rfl, hSw⟩)) (h := ?_)
            simp only [Act.put, List.setIfInBounds_toArray, List.set_cons_zero, List.set_cons_succ]
            refine quietS 7 (hy := fun E Wx hSw => by (go_simp; exact ⟨rfl, hSw⟩)) (h := ?_)
            simp only [Act.put, List.setIfInBounds_toArray, List.set_cons_zero, List.set_cons_succ]
            refine quietS 8 (hy := fun E Wx hSw => by (go_simp; exact ⟨rfl, hSw⟩)) (h := ?_)
            simp only [Act.put, List.setIfInBounds_toArray, List.set_cons_zero, List.set_cons_succ]
            refine quietS 9 (hy := fun E Wx hSw => by ((obtain ⟨u0, u1, u2, u3, u4⟩ := CbC_7.out _ _ hSw); go_simp; exact ⟨rfl, hSw⟩)) (h := ?_)
            simp only [Act.put, List.setIfInBounds_toArray, List.set_cons_zero, List.set_cons_succ]
            refine quietS 10 (hy := fun E Wx hSw => by (go_simp; exact symCall (KZ.out _ _ hSw))) (h := ?_)
            simp only [Act.put, List.setIfInBounds_toArray, List.set_cons_zero, List.set_cons_succ]
            refine quietS 11 (hy := fun E Wx hSw => by (go_simp; exact ⟨rfl, hSw⟩)) (h := ?_)
            simp only [Act.put, List.setIfInBounds_toArray, List.set_cons_zero, List.set_cons_succ]
            refine quietS 12 (hy := fun E Wx hSw => by (go_simp; exact ⟨rfl, hSw⟩)) (h := ?_)
            simp only [Act.put, List.setIfInBounds_toArray, List.set_cons_zero, List.set_cons_succ]
            refine quietS 13 (hy := fun E Wx hSw => by (go_simp; exact ⟨rfl, hSw⟩)) (h := ?_)
            simp only [Act.put, List.setIfInBounds_toArray, List.set_cons_zero, List.set_cons_succ]
            refine quietS 14 (hy := fun E Wx hSw => by ((obtain ⟨u0, u1, u2, u3, u4⟩ := CbC_9.out _ _ hSw); go_simp; exact ⟨rfl, hSw⟩)) (h := ?_)
            simp only [Act.put, List.setIfInBounds_toArray, List.set_cons_zero, List.set_cons_succ]
            refine quietS 15 (hy := fun E Wx hSw => by (go_simp; exact symCall (KZ.out _ _ hSw))) (h := ?_)
            simp only [Act.put, List.setIfInBounds_toArray, List.set_cons_zero, List.set_cons_succ]
            refine quietS 16 (hy := fun E Wx hSw => by (go_simp; exact ⟨rfl, hSw⟩)) (h := ?_)
            simp only [Act.put, List.setIfInBounds_toArray, List.set_cons_zero, List.set_cons_succ]
            refine quietS 17 (hy := fun E Wx hSw => by (go_simp; exact ⟨rfl, hSw⟩)) (h := ?_)
            simp only [Act.put, List.setIfInBounds_toArray, List.set_cons_zero, List.set_cons_succ]
            refine quietS 18 (hy := fun E Wx hSw => by (go_simp; exact ⟨rfl, hSw⟩)) (h := ?_)
            simp only [Act.put, List.setIfInBounds_toArray, List.set_cons_zero, List.set_cons_succ]
            refine quietS 19 (hy := fun E Wx hSw => by ((obtain ⟨u0, u1, u2, u3, u4⟩ := CbC_11.out _ _ hSw); go_simp; exact ⟨rfl, hSw⟩)) (h := ?_)
            simp only [Act.put, List.setIfInBounds_toArray, List.set_cons_zero, List.set_cons_succ]
            refine quietS 20 (hy := fun E Wx hSw => by (go_simp; exact symCall (KZ.out _ _ hSw))) (h := ?_)
            simp only [Act.put, List.setIfInBounds_toArray, List.set_cons_zero, List.set_cons_succ]
            refine quietS 21 (hy := fun E Wx hSw => by (go_simp; exact ⟨rfl, hSw⟩)) (h := ?_)
            simp only [Act.put, List.setIfInBounds_toArray, List.set_cons_zero, List.set_cons_succ]
            refine quietS 22 (hy := fun E Wx hSw => by (go_simp; exact ⟨rfl, hSw⟩)) (h := ?_)
            simp only [Act.put, List.setIfInBounds_toArray, List.set_cons_zero, List.set_cons_succ]
            refine quietS 23 (hy := fun E Wx hSw => by (go_simp; exact ⟨rfl, hSw⟩)) (h := ?_)
            simp only [Act.put, List.setIfInBounds_toArray, List.set_cons_zero, List.set_cons_succ]
            refine quietS 24 (hy := fun E Wx hSw => by (go_simp; exact ⟨rfl, hSw⟩)) (h := ?_)
            simp only [Act.put, List.setIfInBounds_toArray, List.set_cons_zero, List.set_cons_succ]
            refine quietS 25 (hy := fun E Wx hSw => by ((obtain ⟨u0, u1, u2⟩ := CbC_2.out _ _ hSw); go_simp; exact ⟨rfl, hSw⟩)) (h := ?_)
            simp only [Act.put, List.setIfInBounds_toArray, List.set_cons_zero, List.set_cons_succ]
            refine quietS 26 (hy := fun E Wx hSw => by (go_simp; exact ⟨rfl, hSw⟩)) (h := ?_)
            simp only [Act.put, List.setIfInBounds_toArray, List.set_cons_zero, List.set_cons_succ]
            refine quietS 27 (hy := fun E Wx hSw => by ((obtain ⟨u0, u1, u2⟩ := CbC_4.out _ _ hSw); go_simp; exact ⟨rfl, hSw⟩)) (h := ?_)
            simp only [Act.put, List.setIfInBounds_toArray, List.set_cons_zero, List.set_cons_succ]
            refine quietS 28 (hy := fun E Wx hSw => by (go_simp; exact ⟨rfl, hSw⟩)) (h := ?_)
            simp only [Act.put, List.setIfInBounds_toArray, List.set_cons_zero, List.set_cons_succ]
            refine quietS 29 (hy := fun E Wx hSw => by (go_simp; exact ⟨rfl, hSw⟩)) (h := ?_)
            simp only [Act.put, List.setIfInBounds_toArray, List.set_cons_zero, List.set_cons_succ]
            refine quietS 30 (hy := fun E Wx hSw => by ((obtain ⟨u0, u1, u2⟩ := CbC_6.out _ _ hSw); go_simp; exact ⟨rfl, hSw⟩)) (h := ?_)
            simp only [Act.put, List.setIfInBounds_toArray, List.set_cons_zero, List.set_cons_succ]
            refine quietS 31 (hy := fun E Wx hSw => by (go_simp; exact ⟨rfl, hSw⟩)) (h := ?_)
            simp only [Act.put, List.setIfInBounds_toArray, List.set_cons_zero, List.set_cons_succ]
            refine quietS 32 (hy := fun E Wx hSw => by (go_simp; exact ⟨rfl, hSw⟩)) (h := ?_)
            simp only [Act.put, List.setIfInBounds_toArray, List.set_cons_zero, List.set_cons_succ]
            refine quietS 33 (hy := fun E Wx hSw => by (go_simp; exact ⟨rfl, hSw⟩)) (h := ?_)
            simp only [Act.put, List.setIfInBounds_toArray, List.set_cons_zero, List.set_cons_succ]
            refine quietS 34 (hy := fun E Wx hSw => by (go_simp; exact ⟨rfl, hSw⟩)) (h := ?_)
            simp only [Act.put, List.setIfInBounds_toArray, List.set_cons_zero, List.set_cons_succ]
            refine quietS 35 (hy := fun E Wx hSw => by ((obtain ⟨u0, u1, u2⟩ := CbC_8.out _ _ hSw); go_simp; exact ⟨rfl, hSw⟩)) (h := ?_)
            simp only [Act.put, List.setIfInBounds_toArray, List.set_cons_zero, List.set_cons_succ]
            refine quietS 36 (hy := fun E Wx hSw => by (go_simp; exact ⟨rfl, hSw⟩)) (h := ?_)
            simp only [Act.put, List.setIfInBounds_toArray, List.set_cons_zero, List.set_cons_succ]
            refine quietS 37 (hy := fun E Wx hSw => by ((obtain ⟨u0, u1, u2⟩ := CbC_4.out _ _ hSw); go_simp; exact ⟨rfl, hSw⟩)) (h := ?_)
            simp only [Act.put, List.setIfInBounds_toArray, List.set_cons_zero, List.set_cons_succ]
            refine quietS 38 (hy := fun E Wx hSw => by (go_simp; exact ⟨rfl, hSw⟩)) (h := ?_)
            simp only [Act.put, List.setIfInBounds_toArray, List.set_cons_zero, List.set_cons_succ]
            refine quietS 39 (hy := fun E Wx hSw => by (go_simp; exact symCall (KY.out _ _ _ hSw))) (h := ?_)
            simp only [Act.put, List.setIfInBounds_toArray, List.set_cons_zero, List.set_cons_succ]
            refine quietS 40 (hy := fun E Wx hSw => by (go_simp; exact ⟨rfl, hSw⟩)) (h := ?_)
            simp only [Act.put, List.setIfInBounds_toArray, List.set_cons_zero, List.set_cons_succ]
            refine quietS 41 (hy := fun E Wx hSw => by (go_simp; exact ⟨rfl, hSw⟩)) (h := ?_)
            simp only [Act.put, List.setIfInBounds_toArray, List.set_cons_zero, List.set_cons_succ]
            refine quietS 42 (hy := fun E Wx hSw => by (go_simp; exact ⟨rfl, hSw⟩)) (h := ?_)
            simp only [Act.put, List.setIfInBounds_toArray, List.set_cons_zero, List.set_cons_succ]
            refine quietS 43 (hy := fun E Wx hSw => by ((obtain ⟨u0, u1, u2⟩ := CbC_10.out _ _ hSw); go_simp; exact ⟨rfl, hSw⟩)) (h := ?_)
            simp only [Act.put, List.setIfInBounds_toArray, List.set_cons_zero, List.set_cons_succ]
            refine quietS 44 (hy := fun E Wx hSw => by (go_simp; exact ⟨rfl, hSw⟩)) (h := ?_)
            simp only [Act.put, List.setIfInBounds_toArray, List.set_cons_zero, List.set_cons_succ]
            refine quietS 45 (hy := fun E Wx hSw => by ((obtain ⟨u0, u1, u2⟩ := CbC_2.out _ _ hSw); go_simp; exact ⟨rfl, hSw⟩)) (h := ?_)
            simp only [Act.put, List.setIfInBounds_toArray, List.set_cons_zero, List.set_cons_succ]
            refine quietS 46 (hy := fun E Wx hSw => by (go_simp; exact ⟨rfl, hSw⟩)) (h := ?_)
            simp only [Act.put, List.setIfInBounds_toArray, List.set_cons_zero, List.set_cons_succ]
            refine quietS 47 (hy := fun E Wx hSw => by (go_simp; exact symCall (KY.out _ _ _ hSw))) (h := ?_)
            simp only [Act.put, List.setIfInBounds_toArray, List.set_cons_zero, List.set_cons_succ]
            refine quietS 48 (hy := fun E Wx hSw => by (go_simp; exact ⟨rfl, hSw⟩)) (h := ?_)
            simp only [Act.put, List.setIfInBounds_toArray, List.set_cons_zero, List.set_cons_succ]
            refine quietS 49 (hy := fun E Wx hSw => by (go_simp; exact ⟨rfl, hSw⟩)) (h := ?_)
            simp only [Act.put, List.setIfInBounds_toArray, List.set_cons_zero, List.set_cons_succ]
            refine quietS 50 (hy := fun E Wx hSw => by (go_simp; exact ⟨rfl, hSw⟩)) (h := ?_)
            simp only [Act.put, List.setIfInBounds_toArray, List.set_cons_zero, List.set_cons_succ]
            refine quietS 51 (hy := fun E Wx hSw => by ((obtain ⟨u0, u1, u2⟩ := CbC_2.out _ _ hSw); go_simp; exact ⟨rfl, hSw⟩)) (h := ?_)
            simp only [Act.put, List.setIfInBounds_toArray, List.set_cons_zero, List.set_cons_succ]
            refine quietS 52 (hy := fun E Wx hSw => by (go_simp; exact ⟨rfl, hSw⟩)) (h := ?_)
            simp only [Act.put, List.setIfInBounds_toArray, List.set_cons_zero, List.set_cons_succ]
            refine quietS 53 (hy := fun E Wx hSw => by ((obtain ⟨u0, u1, u2⟩ := CbC_0.out _ _ hSw); go_simp; exact ⟨rfl, hSw⟩)) (h := ?_)
            simp only [Act.put, List.setIfInBounds_toArray, List.set_cons_zero, List.set_cons_succ]
            refine quietS 54 (hy := fun E Wx hSw => by (go_simp; exact ⟨rfl, hSw⟩)) (h := ?_)
            simp only [Act.put, List.setIfInBounds_toArray, List.set_cons_zero, List.set_cons_succ]
            refine quietS 55 (hy := fun E Wx hSw => by ((obtain ⟨u0, u1, u2⟩ := CbC_1.out _ _ hSw); go_simp; exact ⟨rfl, hSw⟩)) (h := ?_)
            simp only [Act.put, List.setIfInBounds_toArray, List.set_cons_zero, List.set_cons_succ]
            refine quietS 56 (hy := fun E Wx hSw => by (go_simp; exact ⟨rfl, hSw⟩)) (h := ?_)
            simp only [Act.put, List.setIfInBounds_toArray, List.set_cons_zero, List.set_cons_succ]
            refine quietS 57 (hy := fun E Wx hSw => by (go_simp; exact ⟨rfl, hSw⟩)) (h := ?_)
            simp only [Act.put, List.setIfInBounds_toArray, List.set_cons_zero, List.set_cons_succ]
            refine quietS 58 (hy := fun E Wx hSw => by (go_simp; exact ⟨rfl, hSw⟩)) (h := ?_)
            simp only [Act.put, List.setIfInBounds_toArray, List.set_cons_zero, List.set_cons_succ]
            refine quietS 59 (hy := fun E Wx hSw => by ((obtain ⟨u0, u1, u2⟩ := CbC_0.out _ _ hSw); go_simp; exact ⟨rfl, hSw⟩)) (h := ?_)
            simp only [Act.put, List.setIfInBounds_toArray, List.set_cons_zero, List.set_cons_succ]
            refine quietS 60 (hy := fun E Wx hSw => by (go_simp; exact ⟨rfl, hSw⟩)) (h := ?_)
            simp only [Act.put, List.setIfInBounds_toArray, List.set_cons_zero, List.set_cons_succ]
            refine quietS 61 (hy := fun E Wx hSw => by ((obtain ⟨u0, u1, u2⟩ := CbC_1.out _ _ hSw); go_simp; exact ⟨rfl, hSw⟩)) (h := ?_)
            simp only [Act.put, List.setIfInBounds_toArray, List.set_cons_zero, List.set_cons_succ]
            refine quietS 62 (hy := fun E Wx hSw => by (go_simp; exact ⟨rfl, hSw⟩)) (h := ?_)
            simp only [Act.put, List.setIfInBounds_toArray, List.set_cons_zero, List.set_cons_succ]
            refine quietS 63 (hy := fun E Wx hSw => by (go_simp; exact ⟨rfl, hSw⟩)) (h := ?_)
            simp only [Act.put, List.setIfInBounds_toArray, List.set_cons_zero, List.set_cons_succ]
            refine quietS 64 (hy := fun E Wx hSw => by (go_simp; exact symCall (KY.out _ _ _ hSw))) (h := ?_)
            simp only [Act.put, List.setIfInBounds_toArray, List.set_cons_zero, List.set_cons_succ]
            refine quietS 65 (hy := fun E Wx hSw => by (go_simp; exact ⟨rfl, hSw⟩)) (h := ?_)
            simp only [Act.put, List.setIfInBounds_toArray, List.set_cons_zero, List.set_cons_succ]
            refine quietS 66 (hy := fun E Wx hSw => by (go_simp; exact ⟨rfl, hSw⟩)) (h := ?_)
            simp only [Act.put, List.setIfInBounds_toArray, List.set_cons_zero, List.set_cons_succ]
            refine doneS (h := fun wq S => ?_)
            go_wp2_with fail
            go_meet
            exact ⟨rfl, S⟩
      case rest =>
        obtain ⟨rfl, S⟩ := hcut
        clear KZ KY HN HC HO
        have wr1 : IntKind.i64.wrap 1 = 1 := by decide
        have wr0 : IntKind.i64.wrap 0 = 0 := by decide
        rw [HbC.out] at S
        replace S : Sep w bC wc := by rw [HbC.out]; exact S
        have hbC := HbC.out
        replace S : Sep w (boxR (p8 + 1) (.cells #[.string ⟨#[]⟩, .int .i64 0, .int .i64 0, .string ⟨#[]⟩, .bool false] 38) :: boxR p8 (.cells #[.int .i64 1, .int .i64 jG, .string ⟨#[]⟩] 29) :: boxR (p6 + 1) (.cells #[.string ⟨#[]⟩, .int .i64 0, .int .i64 0, .string ⟨#[]⟩, .bool false] 38) :: boxR p6 (.cells #[.int .i64 1, .int .i64 jL, .string ⟨#[]⟩] 29) :: boxR (p4 + 1) (.cells #[.string ⟨#[]⟩, .int .i64 0, .int .i64 0, .string ⟨#[]⟩, .bool false] 38) :: boxR p4 (.cells #[.int .i64 1, .int .i64 iE, .string ⟨#[]⟩] 29) :: boxR (p2 + 1) (.cells #[.string ⟨#[]⟩, .int .i64 0, .int .i64 0, .string ⟨#[]⟩, .bool false] 38) :: boxR p2 (.cells #[.int .i64 1, .int .i64 iG, .string ⟨#[]⟩] 29) :: boxR (p0 + 1) (.cells #[.string ⟨#[]⟩, .int .i64 0, .int .i64 0, .string ⟨#[]⟩, .bool false] 38) :: boxR p0 (.cells #[.int .i64 1, .int .i64 iL, .string ⟨#[]⟩] 29) :: boxR (xa + 1) (.cells #[.int .i64 X1.kind, .int .i64 X1.n, .string X1.s] 29) :: boxR xa (.cells #[.int .i64 X0.kind, .int .i64 X0.n, .string X0.s] 29) :: boxR qL1 (.cells #[.int .i64 X0.kind, .int .i64 X0.n, .string X0.s, .int .i64 X1.kind, .int .i64 X1.n, .string X1.s, .int .i64 X2.kind, .int .i64 X2.n, .string X2.s, .int .i64 X3.kind, .int .i64 X3.n, .string X3.s] 36) :: heapR h ⟨[], 0⟩ :: boxR (b + 1 + 1) (.cells #[.int .i64 v.kind, .int .i64 v.n, .string v.s] 29) :: boxR (b + 1) (.cells #[.string s0, .string s1] 27) :: boxR b (.cells #[.int .i64 n0, .int .i64 n1] 26) :: []) wc := by rw [← hbC]; exact S
        replace S := Lib.hid S
        clear hbC
        go_upto_region 18 with fail
        go_cut [23, 24] from 177 to 190 (fun s23 s24 wx => ∃ qa qb, s23 = .pointer (some ⟨qa, 0, none⟩) ∧ s24 = .pointer (some ⟨qb, 0, none⟩) ∧ Sep w ([boxR qa (.cells #[.int .i64 0, .int .i64 0, .string ⟨#[]⟩] 29), boxR qb (.cells #[.string typeError, .int .i64 0, .int .i64 0, .string ⟨#[]⟩, .bool false] 38)] ++ bC) wx)
        case first =>
          have S1 : Sep w ([] ++ bC) (wc) := by rw [HbC.out]; exact S.out
          clear S
          refine regionS (E := [emptyR, emptyR]) (base := bC) (Sep.putE (Sep.putE S1)) ?_
          clear S1
          refine quietS 0 (hy := fun E Wx hSw => by (go_simp; exact ⟨rfl, hSw⟩)) (h := ?_)
          simp only [Act.put, List.setIfInBounds_toArray, List.set_cons_zero, List.set_cons_succ]
          refine quietS 1 (hy := fun E Wx hSw => by ((obtain ⟨u0, u1, u2⟩ := CbC_0.out _ _ hSw); go_simp; exact ⟨rfl, hSw⟩)) (h := ?_)
          simp only [Act.put, List.setIfInBounds_toArray, List.set_cons_zero, List.set_cons_succ]
          refine quietS 2 (hy := fun E Wx hSw => by (go_simp; exact ⟨rfl, hSw⟩)) (h := ?_)
          simp only [Act.put, List.setIfInBounds_toArray, List.set_cons_zero, List.set_cons_succ]
          refine quietS 3 (hy := fun E Wx hSw => by (go_simp; exact ⟨rfl, hSw⟩)) (h := ?_)
          simp only [Act.put, List.setIfInBounds_toArray, List.set_cons_zero, List.set_cons_succ]
          refine quietS 4 (hy := fun E Wx hSw => by (go_simp; exact ⟨rfl, hSw⟩)) (h := ?_)
          simp only [Act.put, List.setIfInBounds_toArray, List.set_cons_zero, List.set_cons_succ]
          refine quietS 5 (hy := fun E Wx hSw => by (go_simp; exact ⟨rfl, hSw⟩)) (h := ?_)
          simp only [Act.put, List.setIfInBounds_toArray, List.set_cons_zero, List.set_cons_succ]
          refine quietS 6 (hy := fun E Wx hSw => by ((obtain ⟨u0, u1, u2, u3, u4, u5, u6, u7, u8, u9, u10, u11⟩ := CbC_12.out _ _ hSw); go_simp; exact ⟨rfl, hSw⟩)) (h := ?_)
          simp only [Act.put, List.setIfInBounds_toArray, List.set_cons_zero, List.set_cons_succ]
          refine quietS 7 (hy := fun E Wx hSw => by (go_simp; exact symCall (KT.out _ _ hSw))) (h := ?_)
          simp only [Act.put, List.setIfInBounds_toArray, List.set_cons_zero, List.set_cons_succ]
          refine quietS 8 (hy := fun E Wx hSw => by (go_simp; exact ⟨rfl, hSw⟩)) (h := ?_)
          simp only [Act.put, List.setIfInBounds_toArray, List.set_cons_zero, List.set_cons_succ]
          refine quietS 9 (hy := fun E Wx hSw => by (go_simp; exact ⟨rfl, hSw⟩)) (h := ?_)
          simp only [Act.put, List.setIfInBounds_toArray, List.set_cons_zero, List.set_cons_succ]
          refine quietS 10 (hy := fun E Wx hSw => by (go_simp; exact ⟨rfl, hSw⟩)) (h := ?_)
          simp only [Act.put, List.setIfInBounds_toArray, List.set_cons_zero, List.set_cons_succ]
          refine readyS [11, 12] ?_
          refine allocS 0 rfl (fun q => .pointer (some ⟨q, 0, none⟩)) (.cells #[.int .i64 0, .int .i64 0, .string ⟨#[]⟩] 29) (h1 := fun Wx => by go_simp) (h2 := fun qA1 => ?_) (hs := ?_)
          · simp only [Act.put, List.setIfInBounds_toArray, List.set_cons_zero, List.set_cons_succ]
            try simp only [List.set_cons_zero, List.set_cons_succ]
            refine readyS [12] ?_
            refine allocS 1 rfl (fun q => .pointer (some ⟨q, 0, none⟩)) (.cells #[.string ⟨#[]⟩, .int .i64 0, .int .i64 0, .string ⟨#[]⟩, .bool false] 38) (h1 := fun Wx => by go_simp) (h2 := fun qB2 => ?_) (hs := nilS)
            simp only [Act.put, List.setIfInBounds_toArray, List.set_cons_zero, List.set_cons_succ]
            try simp only [List.set_cons_zero, List.set_cons_succ]
            refine readyS [13] ?_
            refine detS undef [boxR qA1 (.cells #[.int .i64 0, .int .i64 0, .string ⟨#[]⟩] 29), boxR qB2 (.cells #[.string ⟨#[]⟩, .int .i64 0, .int .i64 0, .string ⟨#[]⟩, .bool false] 38)] (h1 := fun Wx hSw => by (have hz := hSw.box (b := qA1) (o := .cells #[.int .i64 0, .int .i64 0, .string ⟨#[]⟩] 29) 0 rfl; have z0 := cellAt hz 0 (v := .int .i64 0) rfl; have y0 := frozenAt hz 0; have z1 := cellAt hz 1 (v := .int .i64 0) rfl; have y1 := frozenAt hz 1; have z2 := cellAt hz 2 (v := .string ⟨#[]⟩) rfl; have y2 := frozenAt hz 2; go_simp; exact ⟨rfl, (Sep.setBox (cs := #[.int .i64 0, .int .i64 0, .string ⟨#[]⟩]) (t := 29) (Sep.setBox (cs := #[.int .i64 0, .int .i64 0, .string ⟨#[]⟩]) (t := 29) (Sep.setBox (cs := #[.int .i64 0, .int .i64 0, .string ⟨#[]⟩]) (t := 29) hSw 0 rfl 0 (.int .i64 0)) 0 rfl 1 (.int .i64 0)) 0 rfl 2 (.string ⟨#[]⟩))⟩)) (h2 := ?_) (hs := nilS)
            simp only [Act.put, List.setIfInBounds_toArray, List.set_cons_zero, List.set_cons_succ]
            refine readyS [14] ?_
            refine detS undef [boxR qA1 (.cells #[.int .i64 0, .int .i64 0, .string ⟨#[]⟩] 29), boxR qB2 (.cells #[.string typeError, .int .i64 0, .int .i64 0, .string ⟨#[]⟩, .bool false] 38)] (h1 := fun Wx hSw => by (have hz := hSw.box (b := qB2) (o := .cells #[.string ⟨#[]⟩, .int .i64 0, .int .i64 0, .string ⟨#[]⟩, .bool false] 38) 1 rfl; have z0 := cellAt hz 0 (v := .string ⟨#[]⟩) rfl; have y0 := frozenAt hz 0; have z1 := cellAt hz 1 (v := .int .i64 0) rfl; have y1 := frozenAt hz 1; have z2 := cellAt hz 2 (v := .int .i64 0) rfl; have y2 := frozenAt hz 2; have z3 := cellAt hz 3 (v := .string ⟨#[]⟩) rfl; have y3 := frozenAt hz 3; have z4 := cellAt hz 4 (v := .bool false) rfl; have y4 := frozenAt hz 4; go_simp; exact ⟨rfl, (Sep.setBox (cs := #[.string typeError, .int .i64 0, .int .i64 0, .string ⟨#[]⟩, .bool false]) (t := 38) (Sep.setBox (cs := #[.string typeError, .int .i64 0, .int .i64 0, .string ⟨#[]⟩, .bool false]) (t := 38) (Sep.setBox (cs := #[.string typeError, .int .i64 0, .int .i64 0, .string ⟨#[]⟩, .bool false]) (t := 38) (Sep.setBox (cs := #[.string typeError, .int .i64 0, .int .i64 0, .string ⟨#[]⟩, .bool false]) (t := 38) (Sep.setBox (cs := #[.string ⟨#[]⟩, .int .i64 0, .int .i64 0, .string ⟨#[]⟩, .bool false]) (t := 38) hSw 1 rfl 0 (.string typeError)) 1 rfl 1 (.int .i64 0)) 1 rfl 2 (.int .i64 0)) 1 rfl 3 (.string ⟨#[]⟩)) 1 rfl 4 (.bool false))⟩)) (h2 := ?_) (hs := nilS)
            simp only [Act.put, List.setIfInBounds_toArray, List.set_cons_zero, List.set_cons_succ]
            refine doneS (h := fun w16 S => ?_)
            go_wp2_with fail
            go_meet
            exact ⟨_, _, rfl, rfl, S⟩
          refine allocS 1 rfl (fun q => .pointer (some ⟨q, 0, none⟩)) (.cells #[.string ⟨#[]⟩, .int .i64 0, .int .i64 0, .string ⟨#[]⟩, .bool false] 38) (h1 := fun Wx => by go_simp) (h2 := fun qB5 => ?_) (hs := ?_)
          · simp only [Act.put, List.setIfInBounds_toArray, List.set_cons_zero, List.set_cons_succ]
            try simp only [List.set_cons_zero, List.set_cons_succ]
            refine readyS [11] ?_
            refine allocS 0 rfl (fun q => .pointer (some ⟨q, 0, none⟩)) (.cells #[.int .i64 0, .int .i64 0, .string ⟨#[]⟩] 29) (h1 := fun Wx => by go_simp) (h2 := fun qA6 => ?_) (hs := nilS)
            simp only [Act.put, List.setIfInBounds_toArray, List.set_cons_zero, List.set_cons_succ]
            try simp only [List.set_cons_zero, List.set_cons_succ]
            refine readyS [13] ?_
            refine detS undef [boxR qA6 (.cells #[.int .i64 0, .int .i64 0, .string ⟨#[]⟩] 29), boxR qB5 (.cells #[.string ⟨#[]⟩, .int .i64 0, .int .i64 0, .string ⟨#[]⟩, .bool false] 38)] (h1 := fun Wx hSw => by (have hz := hSw.box (b := qA6) (o := .cells #[.int .i64 0, .int .i64 0, .string ⟨#[]⟩] 29) 0 rfl; have z0 := cellAt hz 0 (v := .int .i64 0) rfl; have y0 := frozenAt hz 0; have z1 := cellAt hz 1 (v := .int .i64 0) rfl; have y1 := frozenAt hz 1; have z2 := cellAt hz 2 (v := .string ⟨#[]⟩) rfl; have y2 := frozenAt hz 2; go_simp; exact ⟨rfl, (Sep.setBox (cs := #[.int .i64 0, .int .i64 0, .string ⟨#[]⟩]) (t := 29) (Sep.setBox (cs := #[.int .i64 0, .int .i64 0, .string ⟨#[]⟩]) (t := 29) (Sep.setBox (cs := #[.int .i64 0, .int .i64 0, .string ⟨#[]⟩]) (t := 29) hSw 0 rfl 0 (.int .i64 0)) 0 rfl 1 (.int .i64 0)) 0 rfl 2 (.string ⟨#[]⟩))⟩)) (h2 := ?_) (hs := nilS)
            simp only [Act.put, List.setIfInBounds_toArray, List.set_cons_zero, List.set_cons_succ]
            refine readyS [14] ?_
            refine detS undef [boxR qA6 (.cells #[.int .i64 0, .int .i64 0, .string ⟨#[]⟩] 29), boxR qB5 (.cells #[.string typeError, .int .i64 0, .int .i64 0, .string ⟨#[]⟩, .bool false] 38)] (h1 := fun Wx hSw => by (have hz := hSw.box (b := qB5) (o := .cells #[.string ⟨#[]⟩, .int .i64 0, .int .i64 0, .string ⟨#[]⟩, .bool false] 38) 1 rfl; have z0 := cellAt hz 0 (v := .string ⟨#[]⟩) rfl; have y0 := frozenAt hz 0; have z1 := cellAt hz 1 (v := .int .i64 0) rfl; have y1 := frozenAt hz 1; have z2 := cellAt hz 2 (v := .int .i64 0) rfl; have y2 := frozenAt hz 2; have z3 := cellAt hz 3 (v := .string ⟨#[]⟩) rfl; have y3 := frozenAt hz 3; have z4 := cellAt hz 4 (v := .bool false) rfl; have y4 := frozenAt hz 4; go_simp; exact ⟨rfl, (Sep.setBox (cs := #[.string typeError, .int .i64 0, .int .i64 0, .string ⟨#[]⟩, .bool false]) (t := 38) (Sep.setBox (cs := #[.string typeError, .int .i64 0, .int .i64 0, .string ⟨#[]⟩, .bool false]) (t := 38) (Sep.setBox (cs := #[.string typeError, .int .i64 0, .int .i64 0, .string ⟨#[]⟩, .bool false]) (t := 38) (Sep.setBox (cs := #[.string typeError, .int .i64 0, .int .i64 0, .string ⟨#[]⟩, .bool false]) (t := 38) (Sep.setBox (cs := #[.string ⟨#[]⟩, .int .i64 0, .int .i64 0, .string ⟨#[]⟩, .bool false]) (t := 38) hSw 1 rfl 0 (.string typeError)) 1 rfl 1 (.int .i64 0)) 1 rfl 2 (.int .i64 0)) 1 rfl 3 (.string ⟨#[]⟩)) 1 rfl 4 (.bool false))⟩)) (h2 := ?_) (hs := nilS)
            simp only [Act.put, List.setIfInBounds_toArray, List.set_cons_zero, List.set_cons_succ]
            refine doneS (h := fun w16 S => ?_)
            go_wp2_with fail
            go_meet
            exact ⟨_, _, rfl, rfl, S⟩
          exact nilS
        case rest =>
          obtain ⟨qa, qb, rfl, rfl, S⟩ := hcut
          replace S : Sep w (boxR qa (.cells #[.int .i64 0, .int .i64 0, .string ⟨#[]⟩] 29) :: boxR qb (.cells #[.string typeError, .int .i64 0, .int .i64 0, .string ⟨#[]⟩, .bool false] 38) :: boxR (p8 + 1) (.cells #[.string ⟨#[]⟩, .int .i64 0, .int .i64 0, .string ⟨#[]⟩, .bool false] 38) :: boxR p8 (.cells #[.int .i64 1, .int .i64 jG, .string ⟨#[]⟩] 29) :: boxR (p6 + 1) (.cells #[.string ⟨#[]⟩, .int .i64 0, .int .i64 0, .string ⟨#[]⟩, .bool false] 38) :: boxR p6 (.cells #[.int .i64 1, .int .i64 jL, .string ⟨#[]⟩] 29) :: boxR (p4 + 1) (.cells #[.string ⟨#[]⟩, .int .i64 0, .int .i64 0, .string ⟨#[]⟩, .bool false] 38) :: boxR p4 (.cells #[.int .i64 1, .int .i64 iE, .string ⟨#[]⟩] 29) :: boxR (p2 + 1) (.cells #[.string ⟨#[]⟩, .int .i64 0, .int .i64 0, .string ⟨#[]⟩, .bool false] 38) :: boxR p2 (.cells #[.int .i64 1, .int .i64 iG, .string ⟨#[]⟩] 29) :: boxR (p0 + 1) (.cells #[.string ⟨#[]⟩, .int .i64 0, .int .i64 0, .string ⟨#[]⟩, .bool false] 38) :: boxR p0 (.cells #[.int .i64 1, .int .i64 iL, .string ⟨#[]⟩] 29) :: boxR (xa + 1) (.cells #[.int .i64 X1.kind, .int .i64 X1.n, .string X1.s] 29) :: boxR xa (.cells #[.int .i64 X0.kind, .int .i64 X0.n, .string X0.s] 29) :: boxR qL1 (.cells #[.int .i64 X0.kind, .int .i64 X0.n, .string X0.s, .int .i64 X1.kind, .int .i64 X1.n, .string X1.s, .int .i64 X2.kind, .int .i64 X2.n, .string X2.s, .int .i64 X3.kind, .int .i64 X3.n, .string X3.s] 36) :: heapR h ⟨[], 0⟩ :: boxR (b + 1 + 1) (.cells #[.int .i64 v.kind, .int .i64 v.n, .string v.s] 29) :: boxR (b + 1) (.cells #[.string s0, .string s1] 27) :: boxR b (.cells #[.int .i64 n0, .int .i64 n1] 26) :: []) wc := by rw [HbC.out] at S; exact S
          have d0 := cellAt (S.box (b := qb) 1 rfl) 0 (v := .string typeError) rfl
          have d1 := cellAt (S.box (b := qb) 1 rfl) 1 (v := .int .i64 0) rfl
          have d2 := cellAt (S.box (b := qb) 1 rfl) 2 (v := .int .i64 0) rfl
          have d3 := cellAt (S.box (b := qb) 1 rfl) 3 (v := .string ⟨#[]⟩) rfl
          have d4 := cellAt (S.box (b := qb) 1 rfl) 4 (v := .bool false) rfl
          have M := Lib.hid (((raised_type wc).mono fun e W1 (hh : _ ∧ _) => (⟨hh.1, S.later hh.2⟩ : _ ∧ Sep w (boxR qa (.cells #[.int .i64 0, .int .i64 0, .string ⟨#[]⟩] 29) :: boxR qb (.cells #[.string typeError, .int .i64 0, .int .i64 0, .string ⟨#[]⟩, .bool false] 38) :: boxR (p8 + 1) (.cells #[.string ⟨#[]⟩, .int .i64 0, .int .i64 0, .string ⟨#[]⟩, .bool false] 38) :: boxR p8 (.cells #[.int .i64 1, .int .i64 jG, .string ⟨#[]⟩] 29) :: boxR (p6 + 1) (.cells #[.string ⟨#[]⟩, .int .i64 0, .int .i64 0, .string ⟨#[]⟩, .bool false] 38) :: boxR p6 (.cells #[.int .i64 1, .int .i64 jL, .string ⟨#[]⟩] 29) :: boxR (p4 + 1) (.cells #[.string ⟨#[]⟩, .int .i64 0, .int .i64 0, .string ⟨#[]⟩, .bool false] 38) :: boxR p4 (.cells #[.int .i64 1, .int .i64 iE, .string ⟨#[]⟩] 29) :: boxR (p2 + 1) (.cells #[.string ⟨#[]⟩, .int .i64 0, .int .i64 0, .string ⟨#[]⟩, .bool false] 38) :: boxR p2 (.cells #[.int .i64 1, .int .i64 iG, .string ⟨#[]⟩] 29) :: boxR (p0 + 1) (.cells #[.string ⟨#[]⟩, .int .i64 0, .int .i64 0, .string ⟨#[]⟩, .bool false] 38) :: boxR p0 (.cells #[.int .i64 1, .int .i64 iL, .string ⟨#[]⟩] 29) :: boxR (xa + 1) (.cells #[.int .i64 X1.kind, .int .i64 X1.n, .string X1.s] 29) :: boxR xa (.cells #[.int .i64 X0.kind, .int .i64 X0.n, .string X0.s] 29) :: boxR qL1 (.cells #[.int .i64 X0.kind, .int .i64 X0.n, .string X0.s, .int .i64 X1.kind, .int .i64 X1.n, .string X1.s, .int .i64 X2.kind, .int .i64 X2.n, .string X2.s, .int .i64 X3.kind, .int .i64 X3.n, .string X3.s] 36) :: heapR h ⟨[], 0⟩ :: boxR (b + 1 + 1) (.cells #[.int .i64 v.kind, .int .i64 v.n, .string v.s] 29) :: boxR (b + 1) (.cells #[.string s0, .string s1] 27) :: boxR b (.cells #[.int .i64 n0, .int .i64 n1] 26) :: []) W1)))
          clear S
          go_wp2_with fail
          refine M.out.mono ?_
          rintro e w17 ⟨rfl, S⟩
          clear M d0 d1 d2 d3 d4
          have HS : Hid (Sep w bB w17) := Lib.hid (by rw [HB.out]; exact S.tail.tail.tail.tail.tail.tail.tail.tail.tail.tail.tail.tail.tail.tail)
          clear S KT wr1 wr0
          go_wp2
          refine ⟨⟨.inr (.inl rfl), HS.out⟩, by decide⟩
    case inr.inl =>
      obtain ⟨bn, bs, l, e, g, hbn, hbs, O, h3⟩ := HU.out
      obtain ⟨iL, hiL⟩ : ∃ i : Int, i = if l = true then 1 else 0 := ⟨_, rfl⟩
      obtain ⟨iE, hiE⟩ : ∃ i : Int, i = if e = true then 1 else 0 := ⟨_, rfl⟩
      obtain ⟨iG, hiG⟩ : ∃ i : Int, i = if g = true then 1 else 0 := ⟨_, rfl⟩
      obtain ⟨jL, hjL⟩ : ∃ i : Int, i = if g = true then 0 else 1 := ⟨_, rfl⟩
      obtain ⟨jG, hjG⟩ : ∃ i : Int, i = if l = true then 0 else 1 := ⟨_, rfl⟩
      have HC := Lib.hid h3
      have HO := Lib.hid O
      have HN := Lib.hid (And.intro hbn (And.intro hbs (And.intro hiL (And.intro hiE (And.intro hiG (And.intro hjL hjG))))))
      clear hbn hbs O h3 hiL hiE hiG hjL hjG
      have c0 := cellAt (S.box (b := qL1) 0 rfl) 0 (v := .int .i64 X0.kind) rfl
      have c1 := cellAt (S.box (b := qL1) 0 rfl) 1 (v := .int .i64 X0.n) rfl
      have c2 := cellAt (S.box (b := qL1) 0 rfl) 2 (v := .string X0.s) rfl
      have c3 := cellAt (S.box (b := qL1) 0 rfl) 3 (v := .int .i64 X1.kind) rfl
      have c4 := cellAt (S.box (b := qL1) 0 rfl) 4 (v := .int .i64 X1.n) rfl
      have c5 := cellAt (S.box (b := qL1) 0 rfl) 5 (v := .string X1.s) rfl
      have c6 := cellAt (S.box (b := qL1) 0 rfl) 6 (v := .int .i64 X2.kind) rfl
      have c7 := cellAt (S.box (b := qL1) 0 rfl) 7 (v := .int .i64 X2.n) rfl
      have c8 := cellAt (S.box (b := qL1) 0 rfl) 8 (v := .string X2.s) rfl
      have c9 := cellAt (S.box (b := qL1) 0 rfl) 9 (v := .int .i64 X3.kind) rfl
      have c10 := cellAt (S.box (b := qL1) 0 rfl) 10 (v := .int .i64 X3.n) rfl
      have c11 := cellAt (S.box (b := qL1) 0 rfl) 11 (v := .string X3.s) rfl
      have Sm := S.alloc (.cells #[.int .i64 X2.kind, .int .i64 X2.n, .string X2.s] 29)
      have Hm := Sm.box (b := qL1) 1 rfl
      have m0 := cellAt Hm 0 (v := .int .i64 X0.kind) rfl
      have m1 := cellAt Hm 1 (v := .int .i64 X0.n) rfl
      have m2 := cellAt Hm 2 (v := .string X0.s) rfl
      have m3 := cellAt Hm 3 (v := .int .i64 X1.kind) rfl
      have m4 := cellAt Hm 4 (v := .int .i64 X1.n) rfl
      have m5 := cellAt Hm 5 (v := .string X1.s) rfl
      have m6 := cellAt Hm 6 (v := .int .i64 X2.kind) rfl
      have m7 := cellAt Hm 7 (v := .int .i64 X2.n) rfl
      have m8 := cellAt Hm 8 (v := .string X2.s) rfl
      have m9 := cellAt Hm 9 (v := .int .i64 X3.kind) rfl
      have m10 := cellAt Hm 10 (v := .int .i64 X3.n) rfl
      have m11 := cellAt Hm 11 (v := .string X3.s) rfl
      clear Sm Hm
      obtain ⟨xa, hxa⟩ : ∃ gx_, (wr.heap.size) = gx_ := ⟨_, rfl⟩
      replace S := ((S.alloc (.cells #[.int .i64 X2.kind, .int .i64 X2.n, .string X2.s] 29)).alloc (.cells #[.int .i64 X3.kind, .int .i64 X3.n, .string X3.s] 29))
      simp only [World.size_alloc, hxa] at S
      replace S : Sep w (boxR (xa + 1) (.cells #[.int .i64 X3.kind, .int .i64 X3.n, .string X3.s] 29) :: boxR xa (.cells #[.int .i64 X2.kind, .int .i64 X2.n, .string X2.s] 29) :: boxR qL1 (.cells #[.int .i64 X0.kind, .int .i64 X0.n, .string X0.s, .int .i64 X1.kind, .int .i64 X1.n, .string X1.s, .int .i64 X2.kind, .int .i64 X2.n, .string X2.s, .int .i64 X3.kind, .int .i64 X3.n, .string X3.s] 36) :: heapR h ⟨[], 0⟩ :: boxR (b + 1 + 1) (.cells #[.int .i64 v.kind, .int .i64 v.n, .string v.s] 29) :: boxR (b + 1) (.cells #[.string s0, .string s1] 27) :: boxR b (.cells #[.int .i64 n0, .int .i64 n1] 26) :: []) _ := S
      have MC : Calls Tryz.prog 18 #[.pointer (some ⟨h, 0, none⟩), .string ⟨#[60]⟩, .agg #[.int .i64 X2.kind, .int .i64 X2.n, .string X2.s], .agg #[.int .i64 X3.kind, .int .i64 X3.n, .string X3.s]] _ fun e W' => e = .returned (.tuple #[.agg #[.int .i64 1, .int .i64 iL, .string ⟨#[]⟩], excZ]) ∧ Sep w (boxR (xa + 1) (.cells #[.int .i64 X3.kind, .int .i64 X3.n, .string X3.s] 29) :: boxR xa (.cells #[.int .i64 X2.kind, .int .i64 X2.n, .string X2.s] 29) :: boxR qL1 (.cells #[.int .i64 X0.kind, .int .i64 X0.n, .string X0.s, .int .i64 X1.kind, .int .i64 X1.n, .string X1.s, .int .i64 X2.kind, .int .i64 X2.n, .string X2.s, .int .i64 X3.kind, .int .i64 X3.n, .string X3.s] 36) :: heapR h ⟨[], 0⟩ :: boxR (b + 1 + 1) (.cells #[.int .i64 v.kind, .int .i64 v.n, .string v.s] 29) :: boxR (b + 1) (.cells #[.string s0, .string s1] 27) :: boxR b (.cells #[.int .i64 n0, .int .i64 n1] 26) :: []) W' := cmp_lt S 3 rfl X2 X3 _ (by rw [HO.out.lt, HN.out.2.2.1]; cases l <;> rfl)
      have d0 := cellAt (S.box (b := xa) 1 rfl) 0 (v := .int .i64 X2.kind) rfl
      have d1 := cellAt (S.box (b := xa) 1 rfl) 1 (v := .int .i64 X2.n) rfl
      have d2 := cellAt (S.box (b := xa) 1 rfl) 2 (v := .string X2.s) rfl
      have d3 := cellAt (S.box (b := xa + 1) 0 rfl) 0 (v := .int .i64 X3.kind) rfl
      have d4 := cellAt (S.box (b := xa + 1) 0 rfl) 1 (v := .int .i64 X3.n) rfl
      have d5 := cellAt (S.box (b := xa + 1) 0 rfl) 2 (v := .string X3.s) rfl
      have M := Lib.hid (MC)
      clear S
      go_wp2_with fail
      try simp only [hxa]
      refine M.out.mono ?_
      rintro e w31 ⟨rfl, S⟩
      clear M d0 d1 d2 d3 d4 d5 hxa
      clear MC
      replace S : Sep w (boxR (xa + 1) (.cells #[.int .i64 X3.kind, .int .i64 X3.n, .string X3.s] 29) :: boxR xa (.cells #[.int .i64 X2.kind, .int .i64 X2.n, .string X2.s] 29) :: boxR qL1 (.cells #[.int .i64 X0.kind, .int .i64 X0.n, .string X0.s, .int .i64 X1.kind, .int .i64 X1.n, .string X1.s, .int .i64 X2.kind, .int .i64 X2.n, .string X2.s, .int .i64 X3.kind, .int .i64 X3.n, .string X3.s] 36) :: heapR h ⟨[], 0⟩ :: boxR (b + 1 + 1) (.cells #[.int .i64 v.kind, .int .i64 v.n, .string v.s] 29) :: boxR (b + 1) (.cells #[.string s0, .string s1] 27) :: boxR b (.cells #[.int .i64 n0, .int .i64 n1] 26) :: []) _ := S
      clear c0 c1 c2 c3 c4 c5 c6 c7 c8 c9 c10 c11 m0 m1 m2 m3 m4 m5 m6 m7 m8 m9 m10 m11
      obtain ⟨p0, hp0⟩ : ∃ gx_, (w31.heap.size) = gx_ := ⟨_, rfl⟩
      replace S := ((S.alloc (.cells #[.int .i64 1, .int .i64 iL, .string ⟨#[]⟩] 29)).alloc (.cells #[.string ⟨#[]⟩, .int .i64 0, .int .i64 0, .string ⟨#[]⟩, .bool false] 38))
      simp only [World.size_alloc, hp0] at S
      replace S : Sep w (boxR (p0 + 1) (.cells #[.string ⟨#[]⟩, .int .i64 0, .int .i64 0, .string ⟨#[]⟩, .bool false] 38) :: boxR p0 (.cells #[.int .i64 1, .int .i64 iL, .string ⟨#[]⟩] 29) :: boxR (xa + 1) (.cells #[.int .i64 X3.kind, .int .i64 X3.n, .string X3.s] 29) :: boxR xa (.cells #[.int .i64 X2.kind, .int .i64 X2.n, .string X2.s] 29) :: boxR qL1 (.cells #[.int .i64 X0.kind, .int .i64 X0.n, .string X0.s, .int .i64 X1.kind, .int .i64 X1.n, .string X1.s, .int .i64 X2.kind, .int .i64 X2.n, .string X2.s, .int .i64 X3.kind, .int .i64 X3.n, .string X3.s] 36) :: heapR h ⟨[], 0⟩ :: boxR (b + 1 + 1) (.cells #[.int .i64 v.kind, .int .i64 v.n, .string v.s] 29) :: boxR (b + 1) (.cells #[.string s0, .string s1] 27) :: boxR b (.cells #[.int .i64 n0, .int .i64 n1] 26) :: []) _ := S
      have MC : Calls Tryz.prog 18 #[.pointer (some ⟨h, 0, none⟩), .string ⟨#[62]⟩, .agg #[.int .i64 X2.kind, .int .i64 X2.n, .string X2.s], .agg #[.int .i64 X3.kind, .int .i64 X3.n, .string X3.s]] _ fun e W' => e = .returned (.tuple #[.agg #[.int .i64 1, .int .i64 iG, .string ⟨#[]⟩], excZ]) ∧ Sep w (boxR (p0 + 1) (.cells #[.string ⟨#[]⟩, .int .i64 0, .int .i64 0, .string ⟨#[]⟩, .bool false] 38) :: boxR p0 (.cells #[.int .i64 1, .int .i64 iL, .string ⟨#[]⟩] 29) :: boxR (xa + 1) (.cells #[.int .i64 X3.kind, .int .i64 X3.n, .string X3.s] 29) :: boxR xa (.cells #[.int .i64 X2.kind, .int .i64 X2.n, .string X2.s] 29) :: boxR qL1 (.cells #[.int .i64 X0.kind, .int .i64 X0.n, .string X0.s, .int .i64 X1.kind, .int .i64 X1.n, .string X1.s, .int .i64 X2.kind, .int .i64 X2.n, .string X2.s, .int .i64 X3.kind, .int .i64 X3.n, .string X3.s] 36) :: heapR h ⟨[], 0⟩ :: boxR (b + 1 + 1) (.cells #[.int .i64 v.kind, .int .i64 v.n, .string v.s] 29) :: boxR (b + 1) (.cells #[.string s0, .string s1] 27) :: boxR b (.cells #[.int .i64 n0, .int .i64 n1] 26) :: []) W' := cmp_gt S 5 rfl X2 X3 _ (by rw [HO.out.gt, HN.out.2.2.2.2.1]; cases g <;> rfl)
      have d0 := cellAt (S.box (b := xa) 3 rfl) 0 (v := .int .i64 X2.kind) rfl
      have d1 := cellAt (S.box (b := xa) 3 rfl) 1 (v := .int .i64 X2.n) rfl
      have d2 := cellAt (S.box (b := xa) 3 rfl) 2 (v := .string X2.s) rfl
      have d3 := cellAt (S.box (b := xa + 1) 2 rfl) 0 (v := .int .i64 X3.kind) rfl
      have d4 := cellAt (S.box (b := xa + 1) 2 rfl) 1 (v := .int .i64 X3.n) rfl
      have d5 := cellAt (S.box (b := xa + 1) 2 rfl) 2 (v := .string X3.s) rfl
      have M := Lib.hid (MC)
      clear S
      go_wp2_with fail
      try simp only [hp0]
      refine M.out.mono ?_
      rintro e w32 ⟨rfl, S⟩
      clear M d0 d1 d2 d3 d4 d5 hp0
      clear MC
      replace S : Sep w (boxR (p0 + 1) (.cells #[.string ⟨#[]⟩, .int .i64 0, .int .i64 0, .string ⟨#[]⟩, .bool false] 38) :: boxR p0 (.cells #[.int .i64 1, .int .i64 iL, .string ⟨#[]⟩] 29) :: boxR (xa + 1) (.cells #[.int .i64 X3.kind, .int .i64 X3.n, .string X3.s] 29) :: boxR xa (.cells #[.int .i64 X2.kind, .int .i64 X2.n, .string X2.s] 29) :: boxR qL1 (.cells #[.int .i64 X0.kind, .int .i64 X0.n, .string X0.s, .int .i64 X1.kind, .int .i64 X1.n, .string X1.s, .int .i64 X2.kind, .int .i64 X2.n, .string X2.s, .int .i64 X3.kind, .int .i64 X3.n, .string X3.s] 36) :: heapR h ⟨[], 0⟩ :: boxR (b + 1 + 1) (.cells #[.int .i64 v.kind, .int .i64 v.n, .string v.s] 29) :: boxR (b + 1) (.cells #[.string s0, .string s1] 27) :: boxR b (.cells #[.int .i64 n0, .int .i64 n1] 26) :: []) _ := S
      obtain ⟨p2, hp2⟩ : ∃ gx_, (w32.heap.size) = gx_ := ⟨_, rfl⟩
      replace S := ((S.alloc (.cells #[.int .i64 1, .int .i64 iG, .string ⟨#[]⟩] 29)).alloc (.cells #[.string ⟨#[]⟩, .int .i64 0, .int .i64 0, .string ⟨#[]⟩, .bool false] 38))
      simp only [World.size_alloc, hp2] at S
      replace S : Sep w (boxR (p2 + 1) (.cells #[.string ⟨#[]⟩, .int .i64 0, .int .i64 0, .string ⟨#[]⟩, .bool false] 38) :: boxR p2 (.cells #[.int .i64 1, .int .i64 iG, .string ⟨#[]⟩] 29) :: boxR (p0 + 1) (.cells #[.string ⟨#[]⟩, .int .i64 0, .int .i64 0, .string ⟨#[]⟩, .bool false] 38) :: boxR p0 (.cells #[.int .i64 1, .int .i64 iL, .string ⟨#[]⟩] 29) :: boxR (xa + 1) (.cells #[.int .i64 X3.kind, .int .i64 X3.n, .string X3.s] 29) :: boxR xa (.cells #[.int .i64 X2.kind, .int .i64 X2.n, .string X2.s] 29) :: boxR qL1 (.cells #[.int .i64 X0.kind, .int .i64 X0.n, .string X0.s, .int .i64 X1.kind, .int .i64 X1.n, .string X1.s, .int .i64 X2.kind, .int .i64 X2.n, .string X2.s, .int .i64 X3.kind, .int .i64 X3.n, .string X3.s] 36) :: heapR h ⟨[], 0⟩ :: boxR (b + 1 + 1) (.cells #[.int .i64 v.kind, .int .i64 v.n, .string v.s] 29) :: boxR (b + 1) (.cells #[.string s0, .string s1] 27) :: boxR b (.cells #[.int .i64 n0, .int .i64 n1] 26) :: []) _ := S
      have MC : Calls Tryz.prog 18 #[.pointer (some ⟨h, 0, none⟩), .string ⟨#[61, 61]⟩, .agg #[.int .i64 X2.kind, .int .i64 X2.n, .string X2.s], .agg #[.int .i64 X3.kind, .int .i64 X3.n, .string X3.s]] _ fun e W' => e = .returned (.tuple #[.agg #[.int .i64 1, .int .i64 iE, .string ⟨#[]⟩], excZ]) ∧ Sep w (boxR (p2 + 1) (.cells #[.string ⟨#[]⟩, .int .i64 0, .int .i64 0, .string ⟨#[]⟩, .bool false] 38) :: boxR p2 (.cells #[.int .i64 1, .int .i64 iG, .string ⟨#[]⟩] 29) :: boxR (p0 + 1) (.cells #[.string ⟨#[]⟩, .int .i64 0, .int .i64 0, .string ⟨#[]⟩, .bool false] 38) :: boxR p0 (.cells #[.int .i64 1, .int .i64 iL, .string ⟨#[]⟩] 29) :: boxR (xa + 1) (.cells #[.int .i64 X3.kind, .int .i64 X3.n, .string X3.s] 29) :: boxR xa (.cells #[.int .i64 X2.kind, .int .i64 X2.n, .string X2.s] 29) :: boxR qL1 (.cells #[.int .i64 X0.kind, .int .i64 X0.n, .string X0.s, .int .i64 X1.kind, .int .i64 X1.n, .string X1.s, .int .i64 X2.kind, .int .i64 X2.n, .string X2.s, .int .i64 X3.kind, .int .i64 X3.n, .string X3.s] 36) :: heapR h ⟨[], 0⟩ :: boxR (b + 1 + 1) (.cells #[.int .i64 v.kind, .int .i64 v.n, .string v.s] 29) :: boxR (b + 1) (.cells #[.string s0, .string s1] 27) :: boxR b (.cells #[.int .i64 n0, .int .i64 n1] 26) :: []) W' := cmp_eq good_empty (by decide) S 7 rfl X2 X3 _ (by rw [same_empty, HO.out.eq, HN.out.2.2.2.1]; cases e <;> rfl)
      have d0 := cellAt (S.box (b := xa) 5 rfl) 0 (v := .int .i64 X2.kind) rfl
      have d1 := cellAt (S.box (b := xa) 5 rfl) 1 (v := .int .i64 X2.n) rfl
      have d2 := cellAt (S.box (b := xa) 5 rfl) 2 (v := .string X2.s) rfl
      have d3 := cellAt (S.box (b := xa + 1) 4 rfl) 0 (v := .int .i64 X3.kind) rfl
      have d4 := cellAt (S.box (b := xa + 1) 4 rfl) 1 (v := .int .i64 X3.n) rfl
      have d5 := cellAt (S.box (b := xa + 1) 4 rfl) 2 (v := .string X3.s) rfl
      have M := Lib.hid (MC)
      clear S
      go_wp2_with fail
      try simp only [hp2]
      refine M.out.mono ?_
      rintro e w33 ⟨rfl, S⟩
      clear M d0 d1 d2 d3 d4 d5 hp2
      clear MC
      replace S : Sep w (boxR (p2 + 1) (.cells #[.string ⟨#[]⟩, .int .i64 0, .int .i64 0, .string ⟨#[]⟩, .bool false] 38) :: boxR p2 (.cells #[.int .i64 1, .int .i64 iG, .string ⟨#[]⟩] 29) :: boxR (p0 + 1) (.cells #[.string ⟨#[]⟩, .int .i64 0, .int .i64 0, .string ⟨#[]⟩, .bool false] 38) :: boxR p0 (.cells #[.int .i64 1, .int .i64 iL, .string ⟨#[]⟩] 29) :: boxR (xa + 1) (.cells #[.int .i64 X3.kind, .int .i64 X3.n, .string X3.s] 29) :: boxR xa (.cells #[.int .i64 X2.kind, .int .i64 X2.n, .string X2.s] 29) :: boxR qL1 (.cells #[.int .i64 X0.kind, .int .i64 X0.n, .string X0.s, .int .i64 X1.kind, .int .i64 X1.n, .string X1.s, .int .i64 X2.kind, .int .i64 X2.n, .string X2.s, .int .i64 X3.kind, .int .i64 X3.n, .string X3.s] 36) :: heapR h ⟨[], 0⟩ :: boxR (b + 1 + 1) (.cells #[.int .i64 v.kind, .int .i64 v.n, .string v.s] 29) :: boxR (b + 1) (.cells #[.string s0, .string s1] 27) :: boxR b (.cells #[.int .i64 n0, .int .i64 n1] 26) :: []) _ := S
      obtain ⟨p4, hp4⟩ : ∃ gx_, (w33.heap.size) = gx_ := ⟨_, rfl⟩
      replace S := ((S.alloc (.cells #[.int .i64 1, .int .i64 iE, .string ⟨#[]⟩] 29)).alloc (.cells #[.string ⟨#[]⟩, .int .i64 0, .int .i64 0, .string ⟨#[]⟩, .bool false] 38))
      simp only [World.size_alloc, hp4] at S
      replace S : Sep w (boxR (p4 + 1) (.cells #[.string ⟨#[]⟩, .int .i64 0, .int .i64 0, .string ⟨#[]⟩, .bool false] 38) :: boxR p4 (.cells #[.int .i64 1, .int .i64 iE, .string ⟨#[]⟩] 29) :: boxR (p2 + 1) (.cells #[.string ⟨#[]⟩, .int .i64 0, .int .i64 0, .string ⟨#[]⟩, .bool false] 38) :: boxR p2 (.cells #[.int .i64 1, .int .i64 iG, .string ⟨#[]⟩] 29) :: boxR (p0 + 1) (.cells #[.string ⟨#[]⟩, .int .i64 0, .int .i64 0, .string ⟨#[]⟩, .bool false] 38) :: boxR p0 (.cells #[.int .i64 1, .int .i64 iL, .string ⟨#[]⟩] 29) :: boxR (xa + 1) (.cells #[.int .i64 X3.kind, .int .i64 X3.n, .string X3.s] 29) :: boxR xa (.cells #[.int .i64 X2.kind, .int .i64 X2.n, .string X2.s] 29) :: boxR qL1 (.cells #[.int .i64 X0.kind, .int .i64 X0.n, .string X0.s, .int .i64 X1.kind, .int .i64 X1.n, .string X1.s, .int .i64 X2.kind, .int .i64 X2.n, .string X2.s, .int .i64 X3.kind, .int .i64 X3.n, .string X3.s] 36) :: heapR h ⟨[], 0⟩ :: boxR (b + 1 + 1) (.cells #[.int .i64 v.kind, .int .i64 v.n, .string v.s] 29) :: boxR (b + 1) (.cells #[.string s0, .string s1] 27) :: boxR b (.cells #[.int .i64 n0, .int .i64 n1] 26) :: []) _ := S
      have MC : Calls Tryz.prog 18 #[.pointer (some ⟨h, 0, none⟩), .string ⟨#[60, 61]⟩, .agg #[.int .i64 X2.kind, .int .i64 X2.n, .string X2.s], .agg #[.int .i64 X3.kind, .int .i64 X3.n, .string X3.s]] _ fun e W' => e = .returned (.tuple #[.agg #[.int .i64 1, .int .i64 jL, .string ⟨#[]⟩], excZ]) ∧ Sep w (boxR (p4 + 1) (.cells #[.string ⟨#[]⟩, .int .i64 0, .int .i64 0, .string ⟨#[]⟩, .bool false] 38) :: boxR p4 (.cells #[.int .i64 1, .int .i64 iE, .string ⟨#[]⟩] 29) :: boxR (p2 + 1) (.cells #[.string ⟨#[]⟩, .int .i64 0, .int .i64 0, .string ⟨#[]⟩, .bool false] 38) :: boxR p2 (.cells #[.int .i64 1, .int .i64 iG, .string ⟨#[]⟩] 29) :: boxR (p0 + 1) (.cells #[.string ⟨#[]⟩, .int .i64 0, .int .i64 0, .string ⟨#[]⟩, .bool false] 38) :: boxR p0 (.cells #[.int .i64 1, .int .i64 iL, .string ⟨#[]⟩] 29) :: boxR (xa + 1) (.cells #[.int .i64 X3.kind, .int .i64 X3.n, .string X3.s] 29) :: boxR xa (.cells #[.int .i64 X2.kind, .int .i64 X2.n, .string X2.s] 29) :: boxR qL1 (.cells #[.int .i64 X0.kind, .int .i64 X0.n, .string X0.s, .int .i64 X1.kind, .int .i64 X1.n, .string X1.s, .int .i64 X2.kind, .int .i64 X2.n, .string X2.s, .int .i64 X3.kind, .int .i64 X3.n, .string X3.s] 36) :: heapR h ⟨[], 0⟩ :: boxR (b + 1 + 1) (.cells #[.int .i64 v.kind, .int .i64 v.n, .string v.s] 29) :: boxR (b + 1) (.cells #[.string s0, .string s1] 27) :: boxR b (.cells #[.int .i64 n0, .int .i64 n1] 26) :: []) W' := cmp_le S 9 rfl X2 X3 _ (by rw [HO.out.le, HN.out.2.2.2.2.2.1]; cases g <;> rfl)
      have d0 := cellAt (S.box (b := xa) 7 rfl) 0 (v := .int .i64 X2.kind) rfl
      have d1 := cellAt (S.box (b := xa) 7 rfl) 1 (v := .int .i64 X2.n) rfl
      have d2 := cellAt (S.box (b := xa) 7 rfl) 2 (v := .string X2.s) rfl
      have d3 := cellAt (S.box (b := xa + 1) 6 rfl) 0 (v := .int .i64 X3.kind) rfl
      have d4 := cellAt (S.box (b := xa + 1) 6 rfl) 1 (v := .int .i64 X3.n) rfl
      have d5 := cellAt (S.box (b := xa + 1) 6 rfl) 2 (v := .string X3.s) rfl
      have M := Lib.hid (MC)
      clear S
      go_wp2_with fail
      try simp only [hp4]
      refine M.out.mono ?_
      rintro e w34 ⟨rfl, S⟩
      clear M d0 d1 d2 d3 d4 d5 hp4
      clear MC
      replace S : Sep w (boxR (p4 + 1) (.cells #[.string ⟨#[]⟩, .int .i64 0, .int .i64 0, .string ⟨#[]⟩, .bool false] 38) :: boxR p4 (.cells #[.int .i64 1, .int .i64 iE, .string ⟨#[]⟩] 29) :: boxR (p2 + 1) (.cells #[.string ⟨#[]⟩, .int .i64 0, .int .i64 0, .string ⟨#[]⟩, .bool false] 38) :: boxR p2 (.cells #[.int .i64 1, .int .i64 iG, .string ⟨#[]⟩] 29) :: boxR (p0 + 1) (.cells #[.string ⟨#[]⟩, .int .i64 0, .int .i64 0, .string ⟨#[]⟩, .bool false] 38) :: boxR p0 (.cells #[.int .i64 1, .int .i64 iL, .string ⟨#[]⟩] 29) :: boxR (xa + 1) (.cells #[.int .i64 X3.kind, .int .i64 X3.n, .string X3.s] 29) :: boxR xa (.cells #[.int .i64 X2.kind, .int .i64 X2.n, .string X2.s] 29) :: boxR qL1 (.cells #[.int .i64 X0.kind, .int .i64 X0.n, .string X0.s, .int .i64 X1.kind, .int .i64 X1.n, .string X1.s, .int .i64 X2.kind, .int .i64 X2.n, .string X2.s, .int .i64 X3.kind, .int .i64 X3.n, .string X3.s] 36) :: heapR h ⟨[], 0⟩ :: boxR (b + 1 + 1) (.cells #[.int .i64 v.kind, .int .i64 v.n, .string v.s] 29) :: boxR (b + 1) (.cells #[.string s0, .string s1] 27) :: boxR b (.cells #[.int .i64 n0, .int .i64 n1] 26) :: []) _ := S
      obtain ⟨p6, hp6⟩ : ∃ gx_, (w34.heap.size) = gx_ := ⟨_, rfl⟩
      replace S := ((S.alloc (.cells #[.int .i64 1, .int .i64 jL, .string ⟨#[]⟩] 29)).alloc (.cells #[.string ⟨#[]⟩, .int .i64 0, .int .i64 0, .string ⟨#[]⟩, .bool false] 38))
      simp only [World.size_alloc, hp6] at S
      replace S : Sep w (boxR (p6 + 1) (.cells #[.string ⟨#[]⟩, .int .i64 0, .int .i64 0, .string ⟨#[]⟩, .bool false] 38) :: boxR p6 (.cells #[.int .i64 1, .int .i64 jL, .string ⟨#[]⟩] 29) :: boxR (p4 + 1) (.cells #[.string ⟨#[]⟩, .int .i64 0, .int .i64 0, .string ⟨#[]⟩, .bool false] 38) :: boxR p4 (.cells #[.int .i64 1, .int .i64 iE, .string ⟨#[]⟩] 29) :: boxR (p2 + 1) (.cells #[.string ⟨#[]⟩, .int .i64 0, .int .i64 0, .string ⟨#[]⟩, .bool false] 38) :: boxR p2 (.cells #[.int .i64 1, .int .i64 iG, .string ⟨#[]⟩] 29) :: boxR (p0 + 1) (.cells #[.string ⟨#[]⟩, .int .i64 0, .int .i64 0, .string ⟨#[]⟩, .bool false] 38) :: boxR p0 (.cells #[.int .i64 1, .int .i64 iL, .string ⟨#[]⟩] 29) :: boxR (xa + 1) (.cells #[.int .i64 X3.kind, .int .i64 X3.n, .string X3.s] 29) :: boxR xa (.cells #[.int .i64 X2.kind, .int .i64 X2.n, .string X2.s] 29) :: boxR qL1 (.cells #[.int .i64 X0.kind, .int .i64 X0.n, .string X0.s, .int .i64 X1.kind, .int .i64 X1.n, .string X1.s, .int .i64 X2.kind, .int .i64 X2.n, .string X2.s, .int .i64 X3.kind, .int .i64 X3.n, .string X3.s] 36) :: heapR h ⟨[], 0⟩ :: boxR (b + 1 + 1) (.cells #[.int .i64 v.kind, .int .i64 v.n, .string v.s] 29) :: boxR (b + 1) (.cells #[.string s0, .string s1] 27) :: boxR b (.cells #[.int .i64 n0, .int .i64 n1] 26) :: []) _ := S
      have MC : Calls Tryz.prog 18 #[.pointer (some ⟨h, 0, none⟩), .string ⟨#[62, 61]⟩, .agg #[.int .i64 X2.kind, .int .i64 X2.n, .string X2.s], .agg #[.int .i64 X3.kind, .int .i64 X3.n, .string X3.s]] _ fun e W' => e = .returned (.tuple #[.agg #[.int .i64 1, .int .i64 jG, .string ⟨#[]⟩], excZ]) ∧ Sep w (boxR (p6 + 1) (.cells #[.string ⟨#[]⟩, .int .i64 0, .int .i64 0, .string ⟨#[]⟩, .bool false] 38) :: boxR p6 (.cells #[.int .i64 1, .int .i64 jL, .string ⟨#[]⟩] 29) :: boxR (p4 + 1) (.cells #[.string ⟨#[]⟩, .int .i64 0, .int .i64 0, .string ⟨#[]⟩, .bool false] 38) :: boxR p4 (.cells #[.int .i64 1, .int .i64 iE, .string ⟨#[]⟩] 29) :: boxR (p2 + 1) (.cells #[.string ⟨#[]⟩, .int .i64 0, .int .i64 0, .string ⟨#[]⟩, .bool false] 38) :: boxR p2 (.cells #[.int .i64 1, .int .i64 iG, .string ⟨#[]⟩] 29) :: boxR (p0 + 1) (.cells #[.string ⟨#[]⟩, .int .i64 0, .int .i64 0, .string ⟨#[]⟩, .bool false] 38) :: boxR p0 (.cells #[.int .i64 1, .int .i64 iL, .string ⟨#[]⟩] 29) :: boxR (xa + 1) (.cells #[.int .i64 X3.kind, .int .i64 X3.n, .string X3.s] 29) :: boxR xa (.cells #[.int .i64 X2.kind, .int .i64 X2.n, .string X2.s] 29) :: boxR qL1 (.cells #[.int .i64 X0.kind, .int .i64 X0.n, .string X0.s, .int .i64 X1.kind, .int .i64 X1.n, .string X1.s, .int .i64 X2.kind, .int .i64 X2.n, .string X2.s, .int .i64 X3.kind, .int .i64 X3.n, .string X3.s] 36) :: heapR h ⟨[], 0⟩ :: boxR (b + 1 + 1) (.cells #[.int .i64 v.kind, .int .i64 v.n, .string v.s] 29) :: boxR (b + 1) (.cells #[.string s0, .string s1] 27) :: boxR b (.cells #[.int .i64 n0, .int .i64 n1] 26) :: []) W' := cmp_ge S 11 rfl X2 X3 _ (by rw [HO.out.ge, HN.out.2.2.2.2.2.2]; cases l <;> rfl)
      have d0 := cellAt (S.box (b := xa) 9 rfl) 0 (v := .int .i64 X2.kind) rfl
      have d1 := cellAt (S.box (b := xa) 9 rfl) 1 (v := .int .i64 X2.n) rfl
      have d2 := cellAt (S.box (b := xa) 9 rfl) 2 (v := .string X2.s) rfl
      have d3 := cellAt (S.box (b := xa + 1) 8 rfl) 0 (v := .int .i64 X3.kind) rfl
      have d4 := cellAt (S.box (b := xa + 1) 8 rfl) 1 (v := .int .i64 X3.n) rfl
      have d5 := cellAt (S.box (b := xa + 1) 8 rfl) 2 (v := .string X3.s) rfl
      have M := Lib.hid (MC)
      clear S
      go_wp2_with fail
      try simp only [hp6]
      refine M.out.mono ?_
      rintro e w35 ⟨rfl, S⟩
      clear M d0 d1 d2 d3 d4 d5 hp6
      clear MC
      replace S : Sep w (boxR (p6 + 1) (.cells #[.string ⟨#[]⟩, .int .i64 0, .int .i64 0, .string ⟨#[]⟩, .bool false] 38) :: boxR p6 (.cells #[.int .i64 1, .int .i64 jL, .string ⟨#[]⟩] 29) :: boxR (p4 + 1) (.cells #[.string ⟨#[]⟩, .int .i64 0, .int .i64 0, .string ⟨#[]⟩, .bool false] 38) :: boxR p4 (.cells #[.int .i64 1, .int .i64 iE, .string ⟨#[]⟩] 29) :: boxR (p2 + 1) (.cells #[.string ⟨#[]⟩, .int .i64 0, .int .i64 0, .string ⟨#[]⟩, .bool false] 38) :: boxR p2 (.cells #[.int .i64 1, .int .i64 iG, .string ⟨#[]⟩] 29) :: boxR (p0 + 1) (.cells #[.string ⟨#[]⟩, .int .i64 0, .int .i64 0, .string ⟨#[]⟩, .bool false] 38) :: boxR p0 (.cells #[.int .i64 1, .int .i64 iL, .string ⟨#[]⟩] 29) :: boxR (xa + 1) (.cells #[.int .i64 X3.kind, .int .i64 X3.n, .string X3.s] 29) :: boxR xa (.cells #[.int .i64 X2.kind, .int .i64 X2.n, .string X2.s] 29) :: boxR qL1 (.cells #[.int .i64 X0.kind, .int .i64 X0.n, .string X0.s, .int .i64 X1.kind, .int .i64 X1.n, .string X1.s, .int .i64 X2.kind, .int .i64 X2.n, .string X2.s, .int .i64 X3.kind, .int .i64 X3.n, .string X3.s] 36) :: heapR h ⟨[], 0⟩ :: boxR (b + 1 + 1) (.cells #[.int .i64 v.kind, .int .i64 v.n, .string v.s] 29) :: boxR (b + 1) (.cells #[.string s0, .string s1] 27) :: boxR b (.cells #[.int .i64 n0, .int .i64 n1] 26) :: []) _ := S
      obtain ⟨p8, hp8⟩ : ∃ gx_, (w35.heap.size) = gx_ := ⟨_, rfl⟩
      replace S := ((S.alloc (.cells #[.int .i64 1, .int .i64 jG, .string ⟨#[]⟩] 29)).alloc (.cells #[.string ⟨#[]⟩, .int .i64 0, .int .i64 0, .string ⟨#[]⟩, .bool false] 38))
      simp only [World.size_alloc, hp8] at S
      replace S : Sep w (boxR (p8 + 1) (.cells #[.string ⟨#[]⟩, .int .i64 0, .int .i64 0, .string ⟨#[]⟩, .bool false] 38) :: boxR p8 (.cells #[.int .i64 1, .int .i64 jG, .string ⟨#[]⟩] 29) :: boxR (p6 + 1) (.cells #[.string ⟨#[]⟩, .int .i64 0, .int .i64 0, .string ⟨#[]⟩, .bool false] 38) :: boxR p6 (.cells #[.int .i64 1, .int .i64 jL, .string ⟨#[]⟩] 29) :: boxR (p4 + 1) (.cells #[.string ⟨#[]⟩, .int .i64 0, .int .i64 0, .string ⟨#[]⟩, .bool false] 38) :: boxR p4 (.cells #[.int .i64 1, .int .i64 iE, .string ⟨#[]⟩] 29) :: boxR (p2 + 1) (.cells #[.string ⟨#[]⟩, .int .i64 0, .int .i64 0, .string ⟨#[]⟩, .bool false] 38) :: boxR p2 (.cells #[.int .i64 1, .int .i64 iG, .string ⟨#[]⟩] 29) :: boxR (p0 + 1) (.cells #[.string ⟨#[]⟩, .int .i64 0, .int .i64 0, .string ⟨#[]⟩, .bool false] 38) :: boxR p0 (.cells #[.int .i64 1, .int .i64 iL, .string ⟨#[]⟩] 29) :: boxR (xa + 1) (.cells #[.int .i64 X3.kind, .int .i64 X3.n, .string X3.s] 29) :: boxR xa (.cells #[.int .i64 X2.kind, .int .i64 X2.n, .string X2.s] 29) :: boxR qL1 (.cells #[.int .i64 X0.kind, .int .i64 X0.n, .string X0.s, .int .i64 X1.kind, .int .i64 X1.n, .string X1.s, .int .i64 X2.kind, .int .i64 X2.n, .string X2.s, .int .i64 X3.kind, .int .i64 X3.n, .string X3.s] 36) :: heapR h ⟨[], 0⟩ :: boxR (b + 1 + 1) (.cells #[.int .i64 v.kind, .int .i64 v.n, .string v.s] 29) :: boxR (b + 1) (.cells #[.string s0, .string s1] 27) :: boxR b (.cells #[.int .i64 n0, .int .i64 n1] 26) :: []) _ := S
      obtain ⟨bC, hbC⟩ : ∃ base, base = boxR (p8 + 1) (.cells #[.string ⟨#[]⟩, .int .i64 0, .int .i64 0, .string ⟨#[]⟩, .bool false] 38) :: boxR p8 (.cells #[.int .i64 1, .int .i64 jG, .string ⟨#[]⟩] 29) :: boxR (p6 + 1) (.cells #[.string ⟨#[]⟩, .int .i64 0, .int .i64 0, .string ⟨#[]⟩, .bool false] 38) :: boxR p6 (.cells #[.int .i64 1, .int .i64 jL, .string ⟨#[]⟩] 29) :: boxR (p4 + 1) (.cells #[.string ⟨#[]⟩, .int .i64 0, .int .i64 0, .string ⟨#[]⟩, .bool false] 38) :: boxR p4 (.cells #[.int .i64 1, .int .i64 iE, .string ⟨#[]⟩] 29) :: boxR (p2 + 1) (.cells #[.string ⟨#[]⟩, .int .i64 0, .int .i64 0, .string ⟨#[]⟩, .bool false] 38) :: boxR p2 (.cells #[.int .i64 1, .int .i64 iG, .string ⟨#[]⟩] 29) :: boxR (p0 + 1) (.cells #[.string ⟨#[]⟩, .int .i64 0, .int .i64 0, .string ⟨#[]⟩, .bool false] 38) :: boxR p0 (.cells #[.int .i64 1, .int .i64 iL, .string ⟨#[]⟩] 29) :: boxR (xa + 1) (.cells #[.int .i64 X3.kind, .int .i64 X3.n, .string X3.s] 29) :: boxR xa (.cells #[.int .i64 X2.kind, .int .i64 X2.n, .string X2.s] 29) :: boxR qL1 (.cells #[.int .i64 X0.kind, .int .i64 X0.n, .string X0.s, .int .i64 X1.kind, .int .i64 X1.n, .string X1.s, .int .i64 X2.kind, .int .i64 X2.n, .string X2.s, .int .i64 X3.kind, .int .i64 X3.n, .string X3.s] 36) :: heapR h ⟨[], 0⟩ :: boxR (b + 1 + 1) (.cells #[.int .i64 v.kind, .int .i64 v.n, .string v.s] 29) :: boxR (b + 1) (.cells #[.string s0, .string s1] 27) :: boxR b (.cells #[.int .i64 n0, .int .i64 n1] 26) :: [] := ⟨_, rfl⟩
      have HbC := Lib.hid hbC
      have KbC : Hid (∀ W (Q : List Res), Sep w (Q ++ bC) W → True) := Lib.hid fun W Q T => by
        rw [hbC] at T
        trivial
      have CbC_0 : Hid (∀ W (Q : List Res), Sep w (Q ++ bC) W → W.cell? ⟨xa, 0, none⟩ = some (.int .i64 X2.kind) ∧ W.cell? ⟨xa, 1, none⟩ = some (.int .i64 X2.n) ∧ W.cell? ⟨xa, 2, none⟩ = some (.string X2.s)) := Lib.hid fun W Q T => by
        rw [hbC] at T
        have i0 := T.box (b := xa) (o := .cells #[.int .i64 X2.kind, .int .i64 X2.n, .string X2.s] 29) (Q.length + 11) (by rw [List.getElem?_append_right (by omega), Nat.add_sub_cancel_left]; rfl)
        exact ⟨cellAt i0 0 rfl, cellAt i0 1 rfl, cellAt i0 2 rfl⟩
      have CbC_1 : Hid (∀ W (Q : List Res), Sep w (Q ++ bC) W → W.cell? ⟨xa + 1, 0, none⟩ = some (.int .i64 X3.kind) ∧ W.cell? ⟨xa + 1, 1, none⟩ = some (.int .i64 X3.n) ∧ W.cell? ⟨xa + 1, 2, none⟩ = some (.string X3.s)) := Lib.hid fun W Q T => by
        rw [hbC] at T
        have i0 := T.box (b := xa + 1) (o := .cells #[.int .i64 X3.kind, .int .i64 X3.n, .string X3.s] 29) (Q.length + 10) (by rw [List.getElem?_append_right (by omega), Nat.add_sub_cancel_left]; rfl)
        exact ⟨cellAt i0 0 rfl, cellAt i0 1 rfl, cellAt i0 2 rfl⟩
      have CbC_2 : Hid (∀ W (Q : List Res), Sep w (Q ++ bC) W → W.cell? ⟨p0, 0, none⟩ = some (.int .i64 1) ∧ W.cell? ⟨p0, 1, none⟩ = some (.int .i64 iL) ∧ W.cell? ⟨p0, 2, none⟩ = some (.string ⟨#[]⟩)) := Lib.hid fun W Q T => by
        rw [hbC] at T
        have i0 := T.box (b := p0) (o := .cells #[.int .i64 1, .int .i64 iL, .string ⟨#[]⟩] 29) (Q.length + 9) (by rw [List.getElem?_append_right (by omega), Nat.add_sub_cancel_left]; rfl)
        exact ⟨cellAt i0 0 rfl, cellAt i0 1 rfl, cellAt i0 2 rfl⟩
      have CbC_3 : Hid (∀ W (Q : List Res), Sep w (Q ++ bC) W → W.cell? ⟨p0 + 1, 0, none⟩ = some (.string ⟨#[]⟩) ∧ W.cell? ⟨p0 + 1, 1, none⟩ = some (.int .i64 0) ∧ W.cell? ⟨p0 + 1, 2, none⟩ = some (.int .i64 0) ∧ W.cell? ⟨p0 + 1, 3, none⟩ = some (.string ⟨#[]⟩) ∧ W.cell? ⟨p0 + 1, 4, none⟩ = some (.bool false)) := Lib.hid fun W Q T => by
        rw [hbC] at T
        have i0 := T.box (b := p0 + 1) (o := .cells #[.string ⟨#[]⟩, .int .i64 0, .int .i64 0, .string ⟨#[]⟩, .bool false] 38) (Q.length + 8) (by rw [List.getElem?_append_right (by omega), Nat.add_sub_cancel_left]; rfl)
        exact ⟨cellAt i0 0 rfl, cellAt i0 1 rfl, cellAt i0 2 rfl, cellAt i0 3 rfl, cellAt i0 4 rfl⟩
      have CbC_4 : Hid (∀ W (Q : List Res), Sep w (Q ++ bC) W → W.cell? ⟨p2, 0, none⟩ = some (.int .i64 1) ∧ W.cell? ⟨p2, 1, none⟩ = some (.int .i64 iG) ∧ W.cell? ⟨p2, 2, none⟩ = some (.string ⟨#[]⟩)) := Lib.hid fun W Q T => by
        rw [hbC] at T
        have i0 := T.box (b := p2) (o := .cells #[.int .i64 1, .int .i64 iG, .string ⟨#[]⟩] 29) (Q.length + 7) (by rw [List.getElem?_append_right (by omega), Nat.add_sub_cancel_left]; rfl)
        exact ⟨cellAt i0 0 rfl, cellAt i0 1 rfl, cellAt i0 2 rfl⟩
      have CbC_5 : Hid (∀ W (Q : List Res), Sep w (Q ++ bC) W → W.cell? ⟨p2 + 1, 0, none⟩ = some (.string ⟨#[]⟩) ∧ W.cell? ⟨p2 + 1, 1, none⟩ = some (.int .i64 0) ∧ W.cell? ⟨p2 + 1, 2, none⟩ = some (.int .i64 0) ∧ W.cell? ⟨p2 + 1, 3, none⟩ = some (.string ⟨#[]⟩) ∧ W.cell? ⟨p2 + 1, 4, none⟩ = some (.bool false)) := Lib.hid fun W Q T => by
        rw [hbC] at T
        have i0 := T.box (b := p2 + 1) (o := .cells #[.string ⟨#[]⟩, .int .i64 0, .int .i64 0, .string ⟨#[]⟩, .bool false] 38) (Q.length + 6) (by rw [List.getElem?_append_right (by omega), Nat.add_sub_cancel_left]; rfl)
        exact ⟨cellAt i0 0 rfl, cellAt i0 1 rfl, cellAt i0 2 rfl, cellAt i0 3 rfl, cellAt i0 4 rfl⟩
      have CbC_6 : Hid (∀ W (Q : List Res), Sep w (Q ++ bC) W → W.cell? ⟨p4, 0, none⟩ = some (.int .i64 1) ∧ W.cell? ⟨p4, 1, none⟩ = some (.int .i64 iE) ∧ W.cell? ⟨p4, 2, none⟩ = some (.string ⟨#[]⟩)) := Lib.hid fun W Q T => by
        rw [hbC] at T
        have i0 := T.box (b := p4) (o := .cells #[.int .i64 1, .int .i64 iE, .string ⟨#[]⟩] 29) (Q.length + 5) (by rw [List.getElem?_append_right (by omega), Nat.add_sub_cancel_left]; rfl)
        exact ⟨cellAt i0 0 rfl, cellAt i0 1 rfl, cellAt i0 2 rfl⟩
      have CbC_7 : Hid (∀ W (Q : List Res), Sep w (Q ++ bC) W → W.cell? ⟨p4 + 1, 0, none⟩ = some (.string ⟨#[]⟩) ∧ W.cell? ⟨p4 + 1, 1, none⟩ = some (.int .i64 0) ∧ W.cell? ⟨p4 + 1, 2, none⟩ = some (.int .i64 0) ∧ W.cell? ⟨p4 + 1, 3, none⟩ = some (.string ⟨#[]⟩) ∧ W.cell? ⟨p4 + 1, 4, none⟩ = some (.bool false)) := Lib.hid fun W Q T => by
        rw [hbC] at T
        have i0 := T.box (b := p4 + 1) (o := .cells #[.string ⟨#[]⟩, .int .i64 0, .int .i64 0, .string ⟨#[]⟩, .bool false] 38) (Q.length + 4) (by rw [List.getElem?_append_right (by omega), Nat.add_sub_cancel_left]; rfl)
        exact ⟨cellAt i0 0 rfl, cellAt i0 1 rfl, cellAt i0 2 rfl, cellAt i0 3 rfl, cellAt i0 4 rfl⟩
      have CbC_8 : Hid (∀ W (Q : List Res), Sep w (Q ++ bC) W → W.cell? ⟨p6, 0, none⟩ = some (.int .i64 1) ∧ W.cell? ⟨p6, 1, none⟩ = some (.int .i64 jL) ∧ W.cell? ⟨p6, 2, none⟩ = some (.string ⟨#[]⟩)) := Lib.hid fun W Q T => by
        rw [hbC] at T
        have i0 := T.box (b := p6) (o := .cells #[.int .i64 1, .int .i64 jL, .string ⟨#[]⟩] 29) (Q.length + 3) (by rw [List.getElem?_append_right (by omega), Nat.add_sub_cancel_left]; rfl)
        exact ⟨cellAt i0 0 rfl, cellAt i0 1 rfl, cellAt i0 2 rfl⟩
      have CbC_9 : Hid (∀ W (Q : List Res), Sep w (Q ++ bC) W → W.cell? ⟨p6 + 1, 0, none⟩ = some (.string ⟨#[]⟩) ∧ W.cell? ⟨p6 + 1, 1, none⟩ = some (.int .i64 0) ∧ W.cell? ⟨p6 + 1, 2, none⟩ = some (.int .i64 0) ∧ W.cell? ⟨p6 + 1, 3, none⟩ = some (.string ⟨#[]⟩) ∧ W.cell? ⟨p6 + 1, 4, none⟩ = some (.bool false)) := Lib.hid fun W Q T => by
        rw [hbC] at T
        have i0 := T.box (b := p6 + 1) (o := .cells #[.string ⟨#[]⟩, .int .i64 0, .int .i64 0, .string ⟨#[]⟩, .bool false] 38) (Q.length + 2) (by rw [List.getElem?_append_right (by omega), Nat.add_sub_cancel_left]; rfl)
        exact ⟨cellAt i0 0 rfl, cellAt i0 1 rfl, cellAt i0 2 rfl, cellAt i0 3 rfl, cellAt i0 4 rfl⟩
      have CbC_10 : Hid (∀ W (Q : List Res), Sep w (Q ++ bC) W → W.cell? ⟨p8, 0, none⟩ = some (.int .i64 1) ∧ W.cell? ⟨p8, 1, none⟩ = some (.int .i64 jG) ∧ W.cell? ⟨p8, 2, none⟩ = some (.string ⟨#[]⟩)) := Lib.hid fun W Q T => by
        rw [hbC] at T
        have i0 := T.box (b := p8) (o := .cells #[.int .i64 1, .int .i64 jG, .string ⟨#[]⟩] 29) (Q.length + 1) (by rw [List.getElem?_append_right (by omega), Nat.add_sub_cancel_left]; rfl)
        exact ⟨cellAt i0 0 rfl, cellAt i0 1 rfl, cellAt i0 2 rfl⟩
      have CbC_11 : Hid (∀ W (Q : List Res), Sep w (Q ++ bC) W → W.cell? ⟨p8 + 1, 0, none⟩ = some (.string ⟨#[]⟩) ∧ W.cell? ⟨p8 + 1, 1, none⟩ = some (.int .i64 0) ∧ W.cell? ⟨p8 + 1, 2, none⟩ = some (.int .i64 0) ∧ W.cell? ⟨p8 + 1, 3, none⟩ = some (.string ⟨#[]⟩) ∧ W.cell? ⟨p8 + 1, 4, none⟩ = some (.bool false)) := Lib.hid fun W Q T => by
        rw [hbC] at T
        have i0 := T.box (b := p8 + 1) (o := .cells #[.string ⟨#[]⟩, .int .i64 0, .int .i64 0, .string ⟨#[]⟩, .bool false] 38) (Q.length + 0) (by rw [List.getElem?_append_right (by omega), Nat.add_sub_cancel_left]; rfl)
        exact ⟨cellAt i0 0 rfl, cellAt i0 1 rfl, cellAt i0 2 rfl, cellAt i0 3 rfl, cellAt i0 4 rfl⟩
      have CbC_12 : Hid (∀ W (Q : List Res), Sep w (Q ++ bC) W → W.cell? ⟨qL1, 0, none⟩ = some (.int .i64 X0.kind) ∧ W.cell? ⟨qL1, 1, none⟩ = some (.int .i64 X0.n) ∧ W.cell? ⟨qL1, 2, none⟩ = some (.string X0.s) ∧ W.cell? ⟨qL1, 3, none⟩ = some (.int .i64 X1.kind) ∧ W.cell? ⟨qL1, 4, none⟩ = some (.int .i64 X1.n) ∧ W.cell? ⟨qL1, 5, none⟩ = some (.string X1.s) ∧ W.cell? ⟨qL1, 6, none⟩ = some (.int .i64 X2.kind) ∧ W.cell? ⟨qL1, 7, none⟩ = some (.int .i64 X2.n) ∧ W.cell? ⟨qL1, 8, none⟩ = some (.string X2.s) ∧ W.cell? ⟨qL1, 9, none⟩ = some (.int .i64 X3.kind) ∧ W.cell? ⟨qL1, 10, none⟩ = some (.int .i64 X3.n) ∧ W.cell? ⟨qL1, 11, none⟩ = some (.string X3.s)) := Lib.hid fun W Q T => by
        rw [hbC] at T
        have i0 := T.box (b := qL1) (o := .cells #[.int .i64 X0.kind, .int .i64 X0.n, .string X0.s, .int .i64 X1.kind, .int .i64 X1.n, .string X1.s, .int .i64 X2.kind, .int .i64 X2.n, .string X2.s, .int .i64 X3.kind, .int .i64 X3.n, .string X3.s] 36) (Q.length + 12) (by rw [List.getElem?_append_right (by omega), Nat.add_sub_cancel_left]; rfl)
        exact ⟨cellAt i0 0 rfl, cellAt i0 1 rfl, cellAt i0 2 rfl, cellAt i0 3 rfl, cellAt i0 4 rfl, cellAt i0 5 rfl, cellAt i0 6 rfl, cellAt i0 7 rfl, cellAt i0 8 rfl, cellAt i0 9 rfl, cellAt i0 10 rfl, cellAt i0 11 rfl⟩
      have KZ : Hid (∀ W (Q : List Res), Sep w (Q ++ bC) W → Calls Tryz.prog 19 #[excZ] W fun e W' => e = .returned (.bool true) ∧ Sep w (Q ++ bC) W') := Lib.hid fun W Q T => by
        exact (none_z W).mono fun e W' ⟨e1, e2⟩ => ⟨e1, T.later e2⟩
      have KY : Hid (∀ W (Q : List Res) (c : Bool), Sep w (Q ++ bC) W → Calls Tryz.prog 20 #[.bool c] W fun e W' => e = .returned (.agg #[.int .i64 1, .int .i64 (if c = true then 1 else 0), .string ⟨#[]⟩]) ∧ Sep w (Q ++ bC) W') := Lib.hid fun W Q c T => by
        exact (lyes_ok W c).mono fun e W' ⟨e1, e2⟩ => ⟨e1, T.later e2⟩
      have KT : Hid (∀ W (Q : List Res), Sep w (Q ++ bC) W → Calls Tryz.prog 18 #[.pointer (some ⟨h, 0, none⟩), .string ⟨#[60]⟩, .agg #[.int .i64 X2.kind, .int .i64 X2.n, .string X2.s], .agg #[.int .i64 X0.kind, .int .i64 X0.n, .string X0.s]] W fun e W' => e = .returned (.tuple #[.agg #[.int .i64 0, .int .i64 0, .string ⟨#[]⟩], excN typeError]) ∧ Sep w (Q ++ bC) W') := Lib.hid fun W Q T => by
        rw [HbC.out] at T ⊢
        exact cmp_lt T (Q.length + 13) (by rw [List.getElem?_append_right (by omega), Nat.add_sub_cancel_left]; rfl) X2 X0 _ (by rw [N02.out.2.1]; rfl)
      replace S := Lib.hid S
      clear hbC
      go_upto_region 16 with fail
      try simp only [hp8]
      go_cut [176] from 110 to 176 (fun s176 wx => s176 = .bool false ∧ Sep w bC wx)
      case first =>
        have S1 : Sep w ([] ++ bC) (((w35.alloc (.cells #[.int .i64 1, .int .i64 jG, .string ⟨#[]⟩] 29)).alloc (.cells #[.string ⟨#[]⟩, .int .i64 0, .int .i64 0, .string ⟨#[]⟩, .bool false] 38))) := by rw [HbC.out]; exact S.out
        clear S
        have NE : ∀ W, (binOp .neq 29 (.agg #[.int .i64 1, .int .i64 0, .string ⟨#[]⟩]) (.agg #[.int .i64 1, .int .i64 0, .string ⟨#[]⟩])).run Tryz.prog W = .ok (.bool false) W := fun W => by go_simp
        have NF : ∀ W, (binOp .neq 29 (.agg #[.int .i64 1, .int .i64 1, .string ⟨#[]⟩]) (.agg #[.int .i64 1, .int .i64 1, .string ⟨#[]⟩])).run Tryz.prog W = .ok (.bool false) W := fun W => by go_simp
        rcases HC.out with ⟨rfl, rfl, rfl, rfl, rfl⟩ | ⟨rfl, rfl, rfl, rfl, rfl⟩ | ⟨rfl, rfl, rfl, rfl, rfl⟩
        case inl =>
          as_aux_lemma =>
            obtain ⟨hbn, hbs, hiL, hiE, hiG, hjL, hjG⟩ := HN.out
            simp only [if_true, Bool.false_eq_true, if_false] at hiL hiE hiG hjL hjG
            subst hiL hiE hiG hjL hjG
            clear HN HC HO
            try simp only [List.append_eq, List.cons_append, List.nil_append]
            refine regionS (E := []) (base := bC) S1 ?_
            clear S1
            refine quietS 0 (hy := fun E Wx hSw => by ((obtain ⟨u0, u1, u2, u3, u4⟩ := CbC_3.out _ _ hSw); go_simp; exact ⟨rfl, hSw⟩)) (h := ?_)
            simp only [Act.put, List.setIfInBounds_toArray, List.set_cons_zero, List.set_cons_succ]
            refine quietS 1 (hy := fun E Wx hSw => by (go_simp; exact symCall (KZ.out _ _ hSw))) (h := ?_)
            simp only [Act.put, List.setIfInBounds_toArray, List.set_cons_zero, List.set_cons_succ]
            refine quietS 2 (hy := fun E Wx hSw => by (go_simp; exact ⟨rfl, hSw⟩)) (h := ?_)
            simp only [Act.put, List.setIfInBounds_toArray, List.set_cons_zero, List.set_cons_succ]
            refine quietS 3 (hy := fun E Wx hSw => by (go_simp; exact ⟨rfl, hSw⟩)) (h := ?_)
            simp only [Act.put, List.setIfInBounds_toArray, List.set_cons_zero, List.set_cons_succ]
            refine quietS 4 (hy := fun E Wx hSw => by ((obtain ⟨u0, u1, u2, u3, u4⟩ := CbC_5.out _ _ hSw); go_simp; exact ⟨rfl, hSw⟩)) (h := ?_)
            simp only [Act.put, List.setIfInBounds_toArray, List.set_cons_zero, List.set_cons_succ]
            refine quietS 5 (hy := fun E Wx hSw => by (go_simp; exact symCall (KZ.out _ _ hSw))) (h := ?_)
            simp only [Act.put, List.setIfInBounds_toArray, List.set_cons_zero, List.set_cons_succ]
            refine quietS 6 (hy := fun E Wx hSw => by (go_simp; exact ⟨rfl, hSw⟩)) (h := ?_)
            simp only [Act.put, List.setIfInBounds_toArray, List.set_cons_zero, List.set_cons_succ]
            refine quietS 7 (hy := fun E Wx hSw => by (go_simp; exact ⟨rfl, hSw⟩)) (h := ?_)
            simp only [Act.put, List.setIfInBounds_toArray, List.set_cons_zero, List.set_cons_succ]
            refine quietS 8 (hy := fun E Wx hSw => by (go_simp; exact ⟨rfl, hSw⟩)) (h := ?_)
            simp only [Act.put, List.setIfInBounds_toArray, List.set_cons_zero, List.set_cons_succ]
            refine quietS 9 (hy := fun E Wx hSw => by ((obtain ⟨u0, u1, u2, u3, u4⟩ := CbC_7.out _ _ hSw); go_simp; exact ⟨rfl, hSw⟩)) (h := ?_)
            simp only [Act.put, List.setIfInBounds_toArray, List.set_cons_zero, List.set_cons_succ]
            refine quietS 10 (hy := fun E Wx hSw => by (go_simp; exact symCall (KZ.out _ _ hSw))) (h := ?_)
            simp only [Act.put, List.setIfInBounds_toArray, List.set_cons_zero, List.set_cons_succ]
            refine quietS 11 (hy := fun E Wx hSw => by (go_simp; exact ⟨rfl, hSw⟩)) (h := ?_)
            simp only [Act.put, List.setIfInBounds_toArray, List.set_cons_zero, List.set_cons_succ]
            refine quietS 12 (hy := fun E Wx hSw => by (go_simp; exact ⟨rfl, hSw⟩)) (h := ?_)
            simp only [Act.put, List.setIfInBounds_toArray, List.set_cons_zero, List.set_cons_succ]
            refine quietS 13 (hy := fun E Wx hSw => by (go_simp; exact ⟨rfl, hSw⟩)) (h := ?_)
            simp only [Act.put, List.setIfInBounds_toArray, List.set_cons_zero, List.set_cons_succ]
            refine quietS 14 (hy := fun E Wx hSw => by ((obtain ⟨u0, u1, u2, u3, u4⟩ := CbC_9.out _ _ hSw); go_simp; exact ⟨rfl, hSw⟩)) (h := ?_)
            simp only [Act.put, List.setIfInBounds_toArray, List.set_cons_zero, List.set_cons_succ]
            refine quietS 15 (hy := fun E Wx hSw => by (go_simp; exact symCall (KZ.out _ _ hSw))) (h := ?_)
            simp only [Act.put, List.setIfInBounds_toArray, List.set_cons_zero, List.set_cons_succ]
            refine quietS 16 (hy := fun E Wx hSw => by (go_simp; exact ⟨rfl, hSw⟩)) (h := ?_)
            simp only [Act.put, List.setIfInBounds_toArray, List.set_cons_zero, List.set_cons_succ]
            refine quietS 17 (hy := fun E Wx hSw => by (go_simp; exact ⟨rfl, hSw⟩)) (h := ?_)
            simp only [Act.put, List.setIfInBounds_toArray, List.set_cons_zero, List.set_cons_succ]
            refine quietS 18 (hy := fun E Wx hSw => by (go_simp; exact ⟨rfl, hSw⟩)) (h := ?_)
            simp only [Act.put, List.setIfInBounds_toArray, List.set_cons_zero, List.set_cons_succ]
            refine quietS 19 (hy := fun E Wx hSw => by ((obtain ⟨u0, u1, u2, u3, u4⟩ := CbC_11.out _ _ hSw); go_simp; exact ⟨rfl, hSw⟩)) (h := ?_)
            simp only [Act.put, List.setIfInBounds_toArray, List.set_cons_zero, List.set_cons_succ]
            refine quietS 20 (hy := fun E Wx hSw => by (go_simp; exact symCall (KZ.out _ _ hSw))) (h := ?_)
            simp only [Act.put, List.setIfInBounds_toArray, List.set_cons_zero, List.set_cons_succ]
            refine quietS 21 (hy := fun E Wx hSw => by (go_simp; exact ⟨rfl, hSw⟩)) (h := ?_)
            simp only [Act.put, List.setIfInBounds_toArray, List.set_cons_zero, List.set_cons_succ]
            refine quietS 22 (hy := fun E Wx hSw => by (go_simp; exact ⟨rfl, hSw⟩)) (h := ?_)
            simp only [Act.put, List.setIfInBounds_toArray, List.set_cons_zero, List.set_cons_succ]
            refine quietS 23 (hy := fun E Wx hSw => by (go_simp; exact ⟨rfl, hSw⟩)) (h := ?_)
            simp only [Act.put, List.setIfInBounds_toArray, List.set_cons_zero, List.set_cons_succ]
            refine quietS 24 (hy := fun E Wx hSw => by (go_simp; exact ⟨rfl, hSw⟩)) (h := ?_)
            simp only [Act.put, List.setIfInBounds_toArray, List.set_cons_zero, List.set_cons_succ]
            refine quietS 25 (hy := fun E Wx hSw => by ((obtain ⟨u0, u1, u2⟩ := CbC_2.out _ _ hSw); go_simp; exact ⟨rfl, hSw⟩)) (h := ?_)
            simp only [Act.put, List.setIfInBounds_toArray, List.set_cons_zero, List.set_cons_succ]
            refine quietS 26 (hy := fun E Wx hSw => by (go_simp; exact ⟨rfl, hSw⟩)) (h := ?_)
            simp only [Act.put, List.setIfInBounds_toArray, List.set_cons_zero, List.set_cons_succ]
            refine quietS 27 (hy := fun E Wx hSw => by ((obtain ⟨u0, u1, u2⟩ := CbC_4.out _ _ hSw); go_simp; exact ⟨rfl, hSw⟩)) (h := ?_)
            simp only [Act.put, List.setIfInBounds_toArray, List.set_cons_zero, List.set_cons_succ]
            refine quietS 28 (hy := fun E Wx hSw => by (go_simp; exact ⟨rfl, hSw⟩)) (h := ?_)
            simp only [Act.put, List.setIfInBounds_toArray, List.set_cons_zero, List.set_cons_succ]
            refine quietS 29 (hy := fun E Wx hSw => by (go_simp; exact ⟨rfl, hSw⟩)) (h := ?_)
            simp only [Act.put, List.setIfInBounds_toArray, List.set_cons_zero, List.set_cons_succ]
            refine quietS 30 (hy := fun E Wx hSw => by ((obtain ⟨u0, u1, u2⟩ := CbC_6.out _ _ hSw); go_simp; exact ⟨rfl, hSw⟩)) (h := ?_)
            simp only [Act.put, List.setIfInBounds_toArray, List.set_cons_zero, List.set_cons_succ]
            refine quietS 31 (hy := fun E Wx hSw => by (go_simp; exact ⟨rfl, hSw⟩)) (h := ?_)
            simp only [Act.put, List.setIfInBounds_toArray, List.set_cons_zero, List.set_cons_succ]
            refine quietS 32 (hy := fun E Wx hSw => by (go_simp; exact ⟨rfl, hSw⟩)) (h := ?_)
            simp only [Act.put, List.setIfInBounds_toArray, List.set_cons_zero, List.set_cons_succ]
            refine quietS 33 (hy := fun E Wx hSw => by (go_simp; exact ⟨rfl, hSw⟩)) (h := ?_)
            simp only [Act.put, List.setIfInBounds_toArray, List.set_cons_zero, List.set_cons_succ]
            refine quietS 34 (hy := fun E Wx hSw => by (go_simp; exact ⟨rfl, hSw⟩)) (h := ?_)
            simp only [Act.put, List.setIfInBounds_toArray, List.set_cons_zero, List.set_cons_succ]
            refine quietS 35 (hy := fun E Wx hSw => by ((obtain ⟨u0, u1, u2⟩ := CbC_8.out _ _ hSw); go_simp; exact ⟨rfl, hSw⟩)) (h := ?_)
            simp only [Act.put, List.setIfInBounds_toArray, List.set_cons_zero, List.set_cons_succ]
            refine quietS 36 (hy := fun E Wx hSw => by (go_simp; exact ⟨rfl, hSw⟩)) (h := ?_)
            simp only [Act.put, List.setIfInBounds_toArray, List.set_cons_zero, List.set_cons_succ]
            refine quietS 37 (hy := fun E Wx hSw => by ((obtain ⟨u0, u1, u2⟩ := CbC_4.out _ _ hSw); go_simp; exact ⟨rfl, hSw⟩)) (h := ?_)
            simp only [Act.put, List.setIfInBounds_toArray, List.set_cons_zero, List.set_cons_succ]
            refine quietS 38 (hy := fun E Wx hSw => by (go_simp; exact ⟨rfl, hSw⟩)) (h := ?_)
            simp only [Act.put, List.setIfInBounds_toArray, List.set_cons_zero, List.set_cons_succ]
            refine quietS 39 (hy := fun E Wx hSw => by (go_simp; exact symCall (KY.out _ _ _ hSw))) (h := ?_)
            simp only [Act.put, List.setIfInBounds_toArray, List.set_cons_zero, List.set_cons_succ]
            refine quietS 40 (hy := fun E Wx hSw => by (go_simp; exact ⟨rfl, hSw⟩)) (h := ?_)
            simp only [Act.put, List.setIfInBounds_toArray, List.set_cons_zero, List.set_cons_succ]
            refine quietS 41 (hy := fun E Wx hSw => by (go_simp; exact ⟨rfl, hSw⟩)) (h := ?_)
            simp only [Act.put, List.setIfInBounds_toArray, List.set_cons_zero, List.set_cons_succ]
            refine quietS 42 (hy := fun E Wx hSw => by (go_simp; exact ⟨rfl, hSw⟩)) (h := ?_)
            simp only [Act.put, List.setIfInBounds_toArray, List.set_cons_zero, List.set_cons_succ]
            refine quietS 43 (hy := fun E Wx hSw => by ((obtain ⟨u0, u1, u2⟩ := CbC_10.out _ _ hSw); go_simp; exact ⟨rfl, hSw⟩)) (h := ?_)
            simp only [Act.put, List.setIfInBounds_toArray, List.set_cons_zero, List.set_cons_succ]
            refine quietS 44 (hy := fun E Wx hSw => by (go_simp; exact ⟨rfl, hSw⟩)) (h := ?_)
            simp only [Act.put, List.setIfInBounds_toArray, List.set_cons_zero, List.set_cons_succ]
            refine quietS 45 (hy := fun E Wx hSw => by ((obtain ⟨u0, u1, u2⟩ := CbC_2.out _ _ hSw); go_simp; exact ⟨rfl, hSw⟩)) (h := ?_)
            simp only [Act.put, List.setIfInBounds_toArray, List.set_cons_zero, List.set_cons_succ]
            refine quietS 46 (hy := fun E Wx hSw => by (go_simp; exact ⟨rfl, hSw⟩)) (h := ?_)
            simp only [Act.put, List.setIfInBounds_toArray, List.set_cons_zero, List.set_cons_succ]
            refine quietS 47 (hy := fun E Wx hSw => by (go_simp; exact symCall (KY.out _ _ _ hSw))) (h := ?_)
            simp only [Act.put, List.setIfInBounds_toArray, List.set_cons_zero, List.set_cons_succ]
            refine quietS 48 (hy := fun E Wx hSw => by (go_simp; exact ⟨rfl, hSw⟩)) (h := ?_)
            simp only [Act.put, List.setIfInBounds_toArray, List.set_cons_zero, List.set_cons_succ]
            refine quietS 49 (hy := fun E Wx hSw => by (go_simp; exact ⟨rfl, hSw⟩)) (h := ?_)
            simp only [Act.put, List.setIfInBounds_toArray, List.set_cons_zero, List.set_cons_succ]
            refine quietS 50 (hy := fun E Wx hSw => by (go_simp; exact ⟨rfl, hSw⟩)) (h := ?_)
            simp only [Act.put, List.setIfInBounds_toArray, List.set_cons_zero, List.set_cons_succ]
            refine quietS 51 (hy := fun E Wx hSw => by ((obtain ⟨u0, u1, u2⟩ := CbC_2.out _ _ hSw); go_simp; exact ⟨rfl, hSw⟩)) (h := ?_)
            simp only [Act.put, List.setIfInBounds_toArray, List.set_cons_zero, List.set_cons_succ]
            refine quietS 52 (hy := fun E Wx hSw => by (go_simp; exact ⟨rfl, hSw⟩)) (h := ?_)
            simp only [Act.put, List.setIfInBounds_toArray, List.set_cons_zero, List.set_cons_succ]
            refine quietS 53 (hy := fun E Wx hSw => by ((obtain ⟨u0, u1, u2⟩ := CbC_0.out _ _ hSw); go_simp; exact ⟨rfl, hSw⟩)) (h := ?_)
            simp only [Act.put, List.setIfInBounds_toArray, List.set_cons_zero, List.set_cons_succ]
            refine quietS 54 (hy := fun E Wx hSw => by (go_simp; exact ⟨rfl, hSw⟩)) (h := ?_)
            simp only [Act.put, List.setIfInBounds_toArray, List.set_cons_zero, List.set_cons_succ]
            refine quietS 55 (hy := fun E Wx hSw => by ((obtain ⟨u0, u1, u2⟩ := CbC_1.out _ _ hSw); go_simp; exact ⟨rfl, hSw⟩)) (h := ?_)
            simp only [Act.put, List.setIfInBounds_toArray, List.set_cons_zero, List.set_cons_succ]
            refine quietS 56 (hy := fun E Wx hSw => by (go_simp; exact ⟨rfl, hSw⟩)) (h := ?_)
            simp only [Act.put, List.setIfInBounds_toArray, List.set_cons_zero, List.set_cons_succ]
            refine quietS 57 (hy := fun E Wx hSw => by (go_simp; exact ⟨rfl, hSw⟩)) (h := ?_)
            simp only [Act.put, List.setIfInBounds_toArray, List.set_cons_zero, List.set_cons_succ]
            refine quietS 58 (hy := fun E Wx hSw => by (go_simp; exact ⟨rfl, hSw⟩)) (h := ?_)
            simp only [Act.put, List.setIfInBounds_toArray, List.set_cons_zero, List.set_cons_succ]
            refine quietS 59 (hy := fun E Wx hSw => by ((obtain ⟨u0, u1, u2⟩ := CbC_0.out _ _ hSw); go_simp; exact ⟨rfl, hSw⟩)) (h := ?_)
            simp only [Act.put, List.setIfInBounds_toArray, List.set_cons_zero, List.set_cons_succ]
            refine quietS 60 (hy := fun E Wx hSw => by (go_simp; exact ⟨rfl, hSw⟩)) (h := ?_)
            simp only [Act.put, List.setIfInBounds_toArray, List.set_cons_zero, List.set_cons_succ]
            refine quietS 61 (hy := fun E Wx hSw => by ((obtain ⟨u0, u1, u2⟩ := CbC_1.out _ _ hSw); go_simp; exact ⟨rfl, hSw⟩)) (h := ?_)
            simp only [Act.put, List.setIfInBounds_toArray, List.set_cons_zero, List.set_cons_succ]
            refine quietS 62 (hy := fun E Wx hSw => by (go_simp; exact ⟨rfl, hSw⟩)) (h := ?_)
            simp only [Act.put, List.setIfInBounds_toArray, List.set_cons_zero, List.set_cons_succ]
            refine quietS 63 (hy := fun E Wx hSw => by (go_simp; exact ⟨rfl, hSw⟩)) (h := ?_)
            simp only [Act.put, List.setIfInBounds_toArray, List.set_cons_zero, List.set_cons_succ]
            refine quietS 64 (hy := fun E Wx hSw => by (go_simp; exact symCall (KY.out _ _ _ hSw))) (h := ?_)
            simp only [Act.put, List.setIfInBounds_toArray, List.set_cons_zero, List.set_cons_succ]
            refine quietS 65 (hy := fun E Wx hSw => by (go_simp; exact ⟨rfl, hSw⟩)) (h := ?_)
            simp only [Act.put, List.setIfInBounds_toArray, List.set_cons_zero, List.set_cons_succ]
            refine quietS 66 (hy := fun E Wx hSw => by (go_simp; exact ⟨rfl, hSw⟩)) (h := ?_)
            simp only [Act.put, List.setIfInBounds_toArray, List.set_cons_zero, List.set_cons_succ]
            refine doneS (h := fun wq S => ?_)
            go_wp2_with fail
            go_meet
            exact ⟨rfl, S⟩
        case inr.inl =>
          as_aux_lemma =>
            obtain ⟨hbn, hbs, hiL, hiE, hiG, hjL, hjG⟩ := HN.out
            simp only [if_true, Bool.false_eq_true, if_false] at hiL hiE hiG hjL hjG
            subst hiL hiE hiG hjL hjG
            clear HN HC HO
            try simp only [List.append_eq, List.cons_append, List.nil_append]
            refine regionS (E := []) (base := bC) S1 ?_
            clear S1
            refine quietS 0 (hy := fun E Wx hSw => by ((obtain ⟨u0, u1, u2, u3, u4⟩ := CbC_3.out _ _ hSw); go_simp; exact ⟨rfl, hSw⟩)) (h := ?_)
            simp only [Act.put, List.setIfInBounds_toArray, List.set_cons_zero, List.set_cons_succ]
            refine quietS 1 (hy := fun E Wx hSw => by (go_simp; exact symCall (KZ.out _ _ hSw))) (h := ?_)
            simp only [Act.put, List.setIfInBounds_toArray, List.set_cons_zero, List.set_cons_succ]
            refine quietS 2 (hy := fun E Wx hSw => by (go_simp; exact ⟨rfl, hSw⟩)) (h := ?_)
            simp only [Act.put, List.setIfInBounds_toArray, List.set_cons_zero, List.set_cons_succ]
            refine quietS 3 (hy := fun E Wx hSw => by (go_simp; exact ⟨rfl, hSw⟩)) (h := ?_)
            simp only [Act.put, List.setIfInBounds_toArray, List.set_cons_zero, List.set_cons_succ]
            refine quietS 4 (hy := fun E Wx hSw => by ((obtain ⟨u0, u1, u2, u3, u4⟩ := CbC_5.out _ _ hSw); go_simp; exact ⟨rfl, hSw⟩)) (h := ?_)
            simp only [Act.put, List.setIfInBounds_toArray, List.set_cons_zero, List.set_cons_succ]
            refine quietS 5 (hy := fun E Wx hSw => by (go_simp; exact symCall (KZ.out _ _ hSw))) (h := ?_)
            simp only [Act.put, List.setIfInBounds_toArray, List.set_cons_zero, List.set_cons_succ]
            refine quietS 6 (hy := fun E Wx hSw => by (go_simp; exact ⟨rfl, hSw⟩)) (h := ?_)
            simp only [Act.put, List.setIfInBounds_toArray, List.set_cons_zero, List.set_cons_succ]
            refine quietS 7 (hy := fun E Wx hSw => by (go_simp; exact ⟨rfl, hSw⟩)) (h := ?_)
            simp only [Act.put, List.setIfInBounds_toArray, List.set_cons_zero, List.set_cons_succ]
            refine quietS 8 (hy := fun E Wx hSw => by (go_simp; exact ⟨rfl, hSw⟩)) (h := ?_)
            simp only [Act.put, List.setIfInBounds_toArray, List.set_cons_zero, List.set_cons_succ]
            refine quietS 9 (hy := fun E Wx hSw => by ((obtain ⟨u0, u1, u2, u3, u4⟩ := CbC_7.out _ _ hSw); go_simp; exact ⟨rfl, hSw⟩)) (h := ?_)
            simp only [Act.put, List.setIfInBounds_toArray, List.set_cons_zero, List.set_cons_succ]
            refine quietS 10 (hy := fun E Wx hSw => by (go_simp; exact symCall (KZ.out _ _ hSw))) (h := ?_)
            simp only [Act.put, List.setIfInBounds_toArray, List.set_cons_zero, List.set_cons_succ]
            refine quietS 11 (hy := fun E Wx hSw => by (go_simp; exact ⟨rfl, hSw⟩)) (h := ?_)
            simp only [Act.put, List.setIfInBounds_toArray, List.set_cons_zero, List.set_cons_succ]
            refine quietS 12 (hy := fun E Wx hSw => by (go_simp; exact ⟨rfl, hSw⟩)) (h := ?_)
            simp only [Act.put, List.setIfInBounds_toArray, List.set_cons_zero, List.set_cons_succ]
            refine quietS 13 (hy := fun E Wx hSw => by (go_simp; exact ⟨rfl, hSw⟩)) (h := ?_)
            simp only [Act.put, List.setIfInBounds_toArray, List.set_cons_zero, List.set_cons_succ]
            refine quietS 14 (hy := fun E Wx hSw => by ((obtain ⟨u0, u1, u2, u3, u4⟩ := CbC_9.out _ _ hSw); go_simp; exact ⟨rfl, hSw⟩)) (h := ?_)
            simp only [Act.put, List.setIfInBounds_toArray, List.set_cons_zero, List.set_cons_succ]
            refine quietS 15 (hy := fun E Wx hSw => by (go_simp; exact symCall (KZ.out _ _ hSw))) (h := ?_)
            simp only [Act.put, List.setIfInBounds_toArray, List.set_cons_zero, List.set_cons_succ]
            refine quietS 16 (hy := fun E Wx hSw => by (go_simp; exact ⟨rfl, hSw⟩)) (h := ?_)
            simp only [Act.put, List.setIfInBounds_toArray, List.set_cons_zero, List.set_cons_succ]
            refine quietS 17 (hy := fun E Wx hSw => by (go_simp; exact ⟨rfl, hSw⟩)) (h := ?_)
            simp only [Act.put, List.setIfInBounds_toArray, List.set_cons_zero, List.set_cons_succ]
            refine quietS 18 (hy := fun E Wx hSw => by (go_simp; exact ⟨rfl, hSw⟩)) (h := ?_)
            simp only [Act.put, List.setIfInBounds_toArray, List.set_cons_zero, List.set_cons_succ]
            refine quietS 19 (hy := fun E Wx hSw => by ((obtain ⟨u0, u1, u2, u3, u4⟩ := CbC_11.out _ _ hSw); go_simp; exact ⟨rfl, hSw⟩)) (h := ?_)
            simp only [Act.put, List.setIfInBounds_toArray, List.set_cons_zero, List.set_cons_succ]
            refine quietS 20 (hy := fun E Wx hSw => by (go_simp; exact symCall (KZ.out _ _ hSw))) (h := ?_)
            simp only [Act.put, List.setIfInBounds_toArray, List.set_cons_zero, List.set_cons_succ]
            refine quietS 21 (hy := fun E Wx hSw => by (go_simp; exact ⟨rfl, hSw⟩)) (h := ?_)
            simp only [Act.put, List.setIfInBounds_toArray, List.set_cons_zero, List.set_cons_succ]
            refine quietS 22 (hy := fun E Wx hSw => by (go_simp; exact ⟨rfl, hSw⟩)) (h := ?_)
            simp only [Act.put, List.setIfInBounds_toArray, List.set_cons_zero, List.set_cons_succ]
            refine quietS 23 (hy := fun E Wx hSw => by (go_simp; exact ⟨rfl, hSw⟩)) (h := ?_)
            simp only [Act.put, List.setIfInBounds_toArray, List.set_cons_zero, List.set_cons_succ]
            refine quietS 24 (hy := fun E Wx hSw => by (go_simp; exact ⟨rfl, hSw⟩)) (h := ?_)
            simp only [Act.put, List.setIfInBounds_toArray, List.set_cons_zero, List.set_cons_succ]
            refine quietS 25 (hy := fun E Wx hSw => by ((obtain ⟨u0, u1, u2⟩ := CbC_2.out _ _ hSw); go_simp; exact ⟨rfl, hSw⟩)) (h := ?_)
            simp only [Act.put, List.setIfInBounds_toArray, List.set_cons_zero, List.set_cons_succ]
            refine quietS 26 (hy := fun E Wx hSw => by (go_simp; exact ⟨rfl, hSw⟩)) (h := ?_)
            simp only [Act.put, List.setIfInBounds_toArray, List.set_cons_zero, List.set_cons_succ]
            refine quietS 27 (hy := fun E Wx hSw => by ((obtain ⟨u0, u1, u2⟩ := CbC_4.out _ _ hSw); go_simp; exact ⟨rfl, hSw⟩)) (h := ?_)
            simp only [Act.put, List.setIfInBounds_toArray, List.set_cons_zero, List.set_cons_succ]
            refine quietS 28 (hy := fun E Wx hSw => by (go_simp; exact ⟨rfl, hSw⟩)) (h := ?_)
            simp only [Act.put, List.setIfInBounds_toArray, List.set_cons_zero, List.set_cons_succ]
            refine quietS 29 (hy := fun E Wx hSw => by (go_simp; exact ⟨rfl, hSw⟩)) (h := ?_)
            simp only [Act.put, List.setIfInBounds_toArray, List.set_cons_zero, List.set_cons_succ]
            refine quietS 30 (hy := fun E Wx hSw => by ((obtain ⟨u0, u1, u2⟩ := CbC_6.out _ _ hSw); go_simp; exact ⟨rfl, hSw⟩)) (h := ?_)
            simp only [Act.put, List.setIfInBounds_toArray, List.set_cons_zero, List.set_cons_succ]
            refine quietS 31 (hy := fun E Wx hSw => by (go_simp; exact ⟨rfl, hSw⟩)) (h := ?_)
            simp only [Act.put, List.setIfInBounds_toArray, List.set_cons_zero, List.set_cons_succ]
            refine quietS 32 (hy := fun E Wx hSw => by (go_simp; exact ⟨rfl, hSw⟩)) (h := ?_)
            simp only [Act.put, List.setIfInBounds_toArray, List.set_cons_zero, List.set_cons_succ]
            refine quietS 33 (hy := fun E Wx hSw => by (go_simp; exact ⟨rfl, hSw⟩)) (h := ?_)
            simp only [Act.put, List.setIfInBounds_toArray, List.set_cons_zero, List.set_cons_succ]
            refine quietS 34 (hy := fun E Wx hSw => by (go_simp; exact ⟨rfl, hSw⟩)) (h := ?_)
            simp only [Act.put, List.setIfInBounds_toArray, List.set_cons_zero, List.set_cons_succ]
            refine quietS 35 (hy := fun E Wx hSw => by ((obtain ⟨u0, u1, u2⟩ := CbC_8.out _ _ hSw); go_simp; exact ⟨rfl, hSw⟩)) (h := ?_)
            simp only [Act.put, List.setIfInBounds_toArray, List.set_cons_zero, List.set_cons_succ]
            refine quietS 36 (hy := fun E Wx hSw => by (go_simp; exact ⟨rfl, hSw⟩)) (h := ?_)
            simp only [Act.put, List.setIfInBounds_toArray, List.set_cons_zero, List.set_cons_succ]
            refine quietS 37 (hy := fun E Wx hSw => by ((obtain ⟨u0, u1, u2⟩ := CbC_4.out _ _ hSw); go_simp; exact ⟨rfl, hSw⟩)) (h := ?_)
            simp only [Act.put, List.setIfInBounds_toArray, List.set_cons_zero, List.set_cons_succ]
            refine quietS 38 (hy := fun E Wx hSw => by (go_simp; exact ⟨rfl, hSw⟩)) (h := ?_)
            simp only [Act.put, List.setIfInBounds_toArray, List.set_cons_zero, List.set_cons_succ]
            refine quietS 39 (hy := fun E Wx hSw => by (go_simp; exact symCall (KY.out _ _ _ hSw))) (h := ?_)
            simp only [Act.put, List.setIfInBounds_toArray, List.set_cons_zero, List.set_cons_succ]
            refine quietS 40 (hy := fun E Wx hSw => by (go_simp; exact ⟨rfl, hSw⟩)) (h := ?_)
            simp only [Act.put, List.setIfInBounds_toArray, List.set_cons_zero, List.set_cons_succ]
            refine quietS 41 (hy := fun E Wx hSw => by (go_simp; exact ⟨rfl, hSw⟩)) (h := ?_)
            simp only [Act.put, List.setIfInBounds_toArray, List.set_cons_zero, List.set_cons_succ]
            refine quietS 42 (hy := fun E Wx hSw => by (go_simp; exact ⟨rfl, hSw⟩)) (h := ?_)
            simp only [Act.put, List.setIfInBounds_toArray, List.set_cons_zero, List.set_cons_succ]
            refine quietS 43 (hy := fun E Wx hSw => by ((obtain ⟨u0, u1, u2⟩ := CbC_10.out _ _ hSw); go_simp; exact ⟨rfl, hSw⟩)) (h := ?_)
            simp only [Act.put, List.setIfInBounds_toArray, List.set_cons_zero, List.set_cons_succ]
            refine quietS 44 (hy := fun E Wx hSw => by (go_simp; exact ⟨rfl, hSw⟩)) (h := ?_)
            simp only [Act.put, List.setIfInBounds_toArray, List.set_cons_zero, List.set_cons_succ]
            refine quietS 45 (hy := fun E Wx hSw => by ((obtain ⟨u0, u1, u2⟩ := CbC_2.out _ _ hSw); go_simp; exact ⟨rfl, hSw⟩)) (h := ?_)
            simp only [Act.put, List.setIfInBounds_toArray, List.set_cons_zero, List.set_cons_succ]
            refine quietS 46 (hy := fun E Wx hSw => by (go_simp; exact ⟨rfl, hSw⟩)) (h := ?_)
            simp only [Act.put, List.setIfInBounds_toArray, List.set_cons_zero, List.set_cons_succ]
            refine quietS 47 (hy := fun E Wx hSw => by (go_simp; exact symCall (KY.out _ _ _ hSw))) (h := ?_)
            simp only [Act.put, List.setIfInBounds_toArray, List.set_cons_zero, List.set_cons_succ]
            refine quietS 48 (hy := fun E Wx hSw => by (go_simp; exact ⟨rfl, hSw⟩)) (h := ?_)
            simp only [Act.put, List.setIfInBounds_toArray, List.set_cons_zero, List.set_cons_succ]
            refine quietS 49 (hy := fun E Wx hSw => by (go_simp; exact ⟨rfl, hSw⟩)) (h := ?_)
            simp only [Act.put, List.setIfInBounds_toArray, List.set_cons_zero, List.set_cons_succ]
            refine quietS 50 (hy := fun E Wx hSw => by (go_simp; exact ⟨rfl, hSw⟩)) (h := ?_)
            simp only [Act.put, List.setIfInBounds_toArray, List.set_cons_zero, List.set_cons_succ]
            refine quietS 51 (hy := fun E Wx hSw => by ((obtain ⟨u0, u1, u2⟩ := CbC_2.out _ _ hSw); go_simp; exact ⟨rfl, hSw⟩)) (h := ?_)
            simp only [Act.put, List.setIfInBounds_toArray, List.set_cons_zero, List.set_cons_succ]
            refine quietS 52 (hy := fun E Wx hSw => by (go_simp; exact ⟨rfl, hSw⟩)) (h := ?_)
            simp only [Act.put, List.setIfInBounds_toArray, List.set_cons_zero, List.set_cons_succ]
            refine quietS 53 (hy := fun E Wx hSw => by ((obtain ⟨u0, u1, u2⟩ := CbC_0.out _ _ hSw); go_simp; exact ⟨rfl, hSw⟩)) (h := ?_)
            simp only [Act.put, List.setIfInBounds_toArray, List.set_cons_zero, List.set_cons_succ]
            refine quietS 54 (hy := fun E Wx hSw => by (go_simp; exact ⟨rfl, hSw⟩)) (h := ?_)
            simp only [Act.put, List.setIfInBounds_toArray, List.set_cons_zero, List.set_cons_succ]
            refine quietS 55 (hy := fun E Wx hSw => by ((obtain ⟨u0, u1, u2⟩ := CbC_1.out _ _ hSw); go_simp; exact ⟨rfl, hSw⟩)) (h := ?_)
            simp only [Act.put, List.setIfInBounds_toArray, List.set_cons_zero, List.set_cons_succ]
            refine quietS 56 (hy := fun E Wx hSw => by (go_simp; exact ⟨rfl, hSw⟩)) (h := ?_)
            simp only [Act.put, List.setIfInBounds_toArray, List.set_cons_zero, List.set_cons_succ]
            refine quietS 57 (hy := fun E Wx hSw => by (go_simp; exact ⟨rfl, hSw⟩)) (h := ?_)
            simp only [Act.put, List.setIfInBounds_toArray, List.set_cons_zero, List.set_cons_succ]
            refine quietS 58 (hy := fun E Wx hSw => by (go_simp; exact ⟨rfl, hSw⟩)) (h := ?_)
            simp only [Act.put, List.setIfInBounds_toArray, List.set_cons_zero, List.set_cons_succ]
            refine quietS 59 (hy := fun E Wx hSw => by ((obtain ⟨u0, u1, u2⟩ := CbC_0.out _ _ hSw); go_simp; exact ⟨rfl, hSw⟩)) (h := ?_)
            simp only [Act.put, List.setIfInBounds_toArray, List.set_cons_zero, List.set_cons_succ]
            refine quietS 60 (hy := fun E Wx hSw => by (go_simp; exact ⟨rfl, hSw⟩)) (h := ?_)
            simp only [Act.put, List.setIfInBounds_toArray, List.set_cons_zero, List.set_cons_succ]
            refine quietS 61 (hy := fun E Wx hSw => by ((obtain ⟨u0, u1, u2⟩ := CbC_1.out _ _ hSw); go_simp; exact ⟨rfl, hSw⟩)) (h := ?_)
            simp only [Act.put, List.setIfInBounds_toArray, List.set_cons_zero, List.set_cons_succ]
            refine quietS 62 (hy := fun E Wx hSw => by (go_simp; exact ⟨rfl, hSw⟩)) (h := ?_)
            simp only [Act.put, List.setIfInBounds_toArray, List.set_cons_zero, List.set_cons_succ]
            refine quietS 63 (hy := fun E Wx hSw => by (go_simp; exact ⟨rfl, hSw⟩)) (h := ?_)
            simp only [Act.put, List.setIfInBounds_toArray, List.set_cons_zero, List.set_cons_succ]
            refine quietS 64 (hy := fun E Wx hSw => by (go_simp; exact symCall (KY.out _ _ _ hSw))) (h := ?_)
            simp only [Act.put, List.setIfInBounds_toArray, List.set_cons_zero, List.set_cons_succ]
            refine quietS 65 (hy := fun E Wx hSw => by (go_simp; exact ⟨rfl, hSw⟩)) (h := ?_)
            simp only [Act.put, List.setIfInBounds_toArray, List.set_cons_zero, List.set_cons_succ]
            refine quietS 66 (hy := fun E Wx hSw => by (go_simp; exact ⟨rfl, hSw⟩)) (h := ?_)
            simp only [Act.put, List.setIfInBounds_toArray, List.set_cons_zero, List.set_cons_succ]
            refine doneS (h := fun wq S => ?_)
            go_wp2_with fail
            go_meet
            exact ⟨rfl, S⟩
        case inr.inr =>
          as_aux_lemma =>
            obtain ⟨hbn, hbs, hiL, hiE, hiG, hjL, hjG⟩ := HN.out
            simp only [if_true, Bool.false_eq_true, if_false] at hiL hiE hiG hjL hjG
            subst hiL hiE hiG hjL hjG
            clear HN HC HO
            try simp only [List.append_eq, List.cons_append, List.nil_append]
            refine regionS (E := []) (base := bC) S1 ?_
            clear S1
            refine quietS 0 (hy := fun E Wx hSw => by ((obtain ⟨u0, u1, u2, u3, u4⟩ := CbC_3.out _ _ hSw); go_simp; exact ⟨rfl, hSw⟩)) (h := ?_)
            simp only [Act.put, List.setIfInBounds_toArray, List.set_cons_zero, List.set_cons_succ]
            refine quietS 1 (hy := fun E Wx hSw => by (go_simp; exact symCall (KZ.out _ _ hSw))) (h := ?_)
            simp only [Act.put, List.setIfInBounds_toArray, List.set_cons_zero, List.set_cons_succ]
            refine quietS 2 (hy := fun E Wx hSw => by (go_simp; exact ⟨rfl, hSw⟩)) (h := ?_)
            simp only [Act.put, List.setIfInBounds_toArray, List.set_cons_zero, List.set_cons_succ]
            refine quietS 3 (hy := fun E Wx hSw => by (go_simp; exact ⟨rfl, hSw⟩)) (h := ?_)
            simp only [Act.put, List.setIfInBounds_toArray, List.set_cons_zero, List.set_cons_succ]
            refine quietS 4 (hy := fun E Wx hSw => by ((obtain ⟨u0, u1, u2, u3, u4⟩ := CbC_5.out _ _ hSw); go_simp; exact ⟨rfl, hSw⟩)) (h := ?_)
            simp only [Act.put, List.setIfInBounds_toArray, List.set_cons_zero, List.set_cons_succ]
            refine quietS 5 (hy := fun E Wx hSw => by (go_simp; exact symCall (KZ.out _ _ hSw))) (h := ?_)
            simp only [Act.put, List.setIfInBounds_toArray, List.set_cons_zero, List.set_cons_succ]
            refine quietS 6 (hy := fun E Wx hSw => by (go_simp; exact ⟨rfl, hSw⟩)) (h := ?_)
            simp only [Act.put, List.setIfInBounds_toArray, List.set_cons_zero, List.set_cons_succ]
            refine quietS 7 (hy := fun E Wx hSw => by (go_simp; exact ⟨rfl, hSw⟩)) (h := ?_)
            simp only [Act.put, List.setIfInBounds_toArray, List.set_cons_zero, List.set_cons_succ]
            refine quietS 8 (hy := fun E Wx hSw => by (go_simp; exact ⟨rfl, hSw⟩)) (h := ?_)
            simp only [Act.put, List.setIfInBounds_toArray, List.set_cons_zero, List.set_cons_succ]
            refine quietS 9 (hy := fun E Wx hSw => by ((obtain ⟨u0, u1, u2, u3, u4⟩ := CbC_7.out _ _ hSw); go_simp; exact ⟨rfl, hSw⟩)) (h := ?_)
            simp only [Act.put, List.setIfInBounds_toArray, List.set_cons_zero, List.set_cons_succ]
            refine quietS 10 (hy := fun E Wx hSw => by (go_simp; exact symCall (KZ.out _ _ hSw))) (h := ?_)
            simp only [Act.put, List.setIfInBounds_toArray, List.set_cons_zero, List.set_cons_succ]
            refine quietS 11 (hy := fun E Wx hSw => by (go_simp; exact ⟨rfl, hSw⟩)) (h := ?_)
            simp only [Act.put, List.setIfInBounds_toArray, List.set_cons_zero, List.set_cons_succ]
            refine quietS 12 (hy := fun E Wx hSw => by (go_simp; exact ⟨rfl, hSw⟩)) (h := ?_)
            simp only [Act.put, List.setIfInBounds_toArray, List.set_cons_zero, List.set_cons_succ]
            refine quietS 13 (hy := fun E Wx hSw => by (go_simp; exact ⟨rfl, hSw⟩)) (h := ?_)
            simp only [Act.put, List.setIfInBounds_toArray, List.set_cons_zero, List.set_cons_succ]
            refine quietS 14 (hy := fun E Wx hSw => by ((obtain ⟨u0, u1, u2, u3, u4⟩ := CbC_9.out _ _ hSw); go_simp; exact ⟨rfl, hSw⟩)) (h := ?_)
            simp only [Act.put, List.setIfInBounds_toArray, List.set_cons_zero, List.set_cons_succ]
            refine quietS 15 (hy := fun E Wx hSw => by (go_simp; exact symCall (KZ.out _ _ hSw))) (h := ?_)
            simp only [Act.put, List.setIfInBounds_toArray, List.set_cons_zero, List.set_cons_succ]
            refine quietS 16 (hy := fun E Wx hSw => by (go_simp; exact ⟨rfl, hSw⟩)) (h := ?_)
            simp only [Act.put, List.setIfInBounds_toArray, List.set_cons_zero, List.set_cons_succ]
            refine quietS 17 (hy := fun E Wx hSw => by (go_simp; exact ⟨rfl, hSw⟩)) (h := ?_)
            simp only [Act.put, List.setIfInBounds_toArray, List.set_cons_zero, List.set_cons_succ]
            refine quietS 18 (hy := fun E Wx hSw => by (go_simp; exact ⟨rfl, hSw⟩)) (h := ?_)
            simp only [Act.put, List.setIfInBounds_toArray, List.set_cons_zero, List.set_cons_succ]
            refine quietS 19 (hy := fun E Wx hSw => by ((obtain ⟨u0, u1, u2, u3, u4⟩ := CbC_11.out _ _ hSw); go_simp; exact ⟨rfl, hSw⟩)) (h := ?_)
            simp only [Act.put, List.setIfInBounds_toArray, List.set_cons_zero, List.set_cons_succ]
            refine quietS 20 (hy := fun E Wx hSw => by (go_simp; exact symCall (KZ.out _ _ hSw))) (h := ?_)
            simp only [Act.put, List.setIfInBounds_toArray, List.set_cons_zero, List.set_cons_succ]
            refine quietS 21 (hy := fun E Wx hSw => by (go_simp; exact ⟨rfl, hSw⟩)) (h := ?_)
            simp only [Act.put, List.setIfInBounds_toArray, List.set_cons_zero, List.set_cons_succ]
            refine quietS 22 (hy := fun E Wx hSw => by (go_simp; exact ⟨rfl, hSw⟩)) (h := ?_)
            simp only [Act.put, List.setIfInBounds_toArray, List.set_cons_zero, List.set_cons_succ]
            refine quietS 23 (hy := fun E Wx hSw => by (go_simp; exact ⟨rfl, hSw⟩)) (h := ?_)
            simp only [Act.put, List.setIfInBounds_toArray, List.set_cons_zero, List.set_cons_succ]
            refine quietS 24 (hy := fun E Wx hSw => by (go_simp; exact ⟨rfl, hSw⟩)) (h := ?_)
            simp only [Act.put, List.setIfInBounds_toArray, List.set_cons_zero, List.set_cons_succ]
            refine quietS 25 (hy := fun E Wx hSw => by ((obtain ⟨u0, u1, u2⟩ := CbC_2.out _ _ hSw); go_simp; exact ⟨rfl, hSw⟩)) (h := ?_)
            simp only [Act.put, List.setIfInBounds_toArray, List.set_cons_zero, List.set_cons_succ]
            refine quietS 26 (hy := fun E Wx hSw => by (go_simp; exact ⟨rfl, hSw⟩)) (h := ?_)
            simp only [Act.put, List.setIfInBounds_toArray, List.set_cons_zero, List.set_cons_succ]
            refine quietS 27 (hy := fun E Wx hSw => by ((obtain ⟨u0, u1, u2⟩ := CbC_4.out _ _ hSw); go_simp; exact ⟨rfl, hSw⟩)) (h := ?_)
            simp only [Act.put, List.setIfInBounds_toArray, List.set_cons_zero, List.set_cons_succ]
            refine quietS 28 (hy := fun E Wx hSw => by (go_simp; exact ⟨rfl, hSw⟩)) (h := ?_)
            simp only [Act.put, List.setIfInBounds_toArray, List.set_cons_zero, List.set_cons_succ]
            refine quietS 29 (hy := fun E Wx hSw => by (go_simp; exact ⟨rfl, hSw⟩)) (h := ?_)
            simp only [Act.put, List.setIfInBounds_toArray, List.set_cons_zero, List.set_cons_succ]
            refine quietS 30 (hy := fun E Wx hSw => by ((obtain ⟨u0, u1, u2⟩ := CbC_6.out _ _ hSw); go_simp; exact ⟨rfl, hSw⟩)) (h := ?_)
            simp only [Act.put, List.setIfInBounds_toArray, List.set_cons_zero, List.set_cons_succ]
            refine quietS 31 (hy := fun E Wx hSw => by (go_simp; exact ⟨rfl, hSw⟩)) (h := ?_)
            simp only [Act.put, List.setIfInBounds_toArray, List.set_cons_zero, List.set_cons_succ]
            refine quietS 32 (hy := fun E Wx hSw => by (go_simp; exact ⟨rfl, hSw⟩)) (h := ?_)
            simp only [Act.put, List.setIfInBounds_toArray, List.set_cons_zero, List.set_cons_succ]
            refine quietS 33 (hy := fun E Wx hSw => by (go_simp; exact ⟨rfl, hSw⟩)) (h := ?_)
            simp only [Act.put, List.setIfInBounds_toArray, List.set_cons_zero, List.set_cons_succ]
            refine quietS 34 (hy := fun E Wx hSw => by (go_simp; exact ⟨rfl, hSw⟩)) (h := ?_)
            simp only [Act.put, List.setIfInBounds_toArray, List.set_cons_zero, List.set_cons_succ]
            refine quietS 35 (hy := fun E Wx hSw => by ((obtain ⟨u0, u1, u2⟩ := CbC_8.out _ _ hSw); go_simp; exact ⟨rfl, hSw⟩)) (h := ?_)
            simp only [Act.put, List.setIfInBounds_toArray, List.set_cons_zero, List.set_cons_succ]
            refine quietS 36 (hy := fun E Wx hSw => by (go_simp; exact ⟨rfl, hSw⟩)) (h := ?_)
            simp only [Act.put, List.setIfInBounds_toArray, List.set_cons_zero, List.set_cons_succ]
            refine quietS 37 (hy := fun E Wx hSw => by ((obtain ⟨u0, u1, u2⟩ := CbC_4.out _ _ hSw); go_simp; exact ⟨rfl, hSw⟩)) (h := ?_)
            simp only [Act.put, List.setIfInBounds_toArray, List.set_cons_zero, List.set_cons_succ]
            refine quietS 38 (hy := fun E Wx hSw => by (go_simp; exact ⟨rfl, hSw⟩)) (h := ?_)
            simp only [Act.put, List.setIfInBounds_toArray, List.set_cons_zero, List.set_cons_succ]
            refine quietS 39 (hy := fun E Wx hSw => by (go_simp; exact symCall (KY.out _ _ _ hSw))) (h := ?_)
            simp only [Act.put, List.setIfInBounds_toArray, List.set_cons_zero, List.set_cons_succ]
            refine quietS 40 (hy := fun E Wx hSw => by (go_simp; exact ⟨rfl, hSw⟩)) (h := ?_)
            simp only [Act.put, List.setIfInBounds_toArray, List.set_cons_zero, List.set_cons_succ]
            refine quietS 41 (hy := fun E Wx hSw => by (go_simp; exact ⟨rfl, hSw⟩)) (h := ?_)
            simp only [Act.put, List.setIfInBounds_toArray, List.set_cons_zero, List.set_cons_succ]
            refine quietS 42 (hy := fun E Wx hSw => by (go_simp; exact ⟨rfl, hSw⟩)) (h := ?_)
            simp only [Act.put, List.setIfInBounds_toArray, List.set_cons_zero, List.set_cons_succ]
            refine quietS 43 (hy := fun E Wx hSw => by ((obtain ⟨u0, u1, u2⟩ := CbC_10.out _ _ hSw); go_simp; exact ⟨rfl, hSw⟩)) (h := ?_)
            simp only [Act.put, List.setIfInBounds_toArray, List.set_cons_zero, List.set_cons_succ]
            refine quietS 44 (hy := fun E Wx hSw => by (go_simp; exact ⟨rfl, hSw⟩)) (h := ?_)
            simp only [Act.put, List.setIfInBounds_toArray, List.set_cons_zero, List.set_cons_succ]
            refine quietS 45 (hy := fun E Wx hSw => by ((obtain ⟨u0, u1, u2⟩ := CbC_2.out _ _ hSw); go_simp; exact ⟨rfl, hSw⟩)) (h := ?_)
            simp only [Act.put, List.setIfInBounds_toArray, List.set_cons_zero, List.set_cons_succ]
            refine quietS 46 (hy := fun E Wx hSw => by (go_simp; exact ⟨rfl, hSw⟩)) (h := ?_)
            simp only [Act.put, List.setIfInBounds_toArray, List.set_cons_zero, List.set_cons_succ]
            refine quietS 47 (hy := fun E Wx hSw => by (go_simp; exact symCall (KY.out _ _ _ hSw))) (h := ?_)
            simp only [Act.put, List.setIfInBounds_toArray, List.set_cons_zero, List.set_cons_succ]
            refine quietS 48 (hy := fun E Wx hSw => by (go_simp; exact ⟨rfl, hSw⟩)) (h := ?_)
            simp only [Act.put, List.setIfInBounds_toArray, List.set_cons_zero, List.set_cons_succ]
            refine quietS 49 (hy := fun E Wx hSw => by (go_simp; exact ⟨rfl, hSw⟩)) (h := ?_)
            simp only [Act.put, List.setIfInBounds_toArray, List.set_cons_zero, List.set_cons_succ]
            refine quietS 50 (hy := fun E Wx hSw => by (go_simp; exact ⟨rfl, hSw⟩)) (h := ?_)
            simp only [Act.put, List.setIfInBounds_toArray, List.set_cons_zero, List.set_cons_succ]
            refine quietS 51 (hy := fun E Wx hSw => by ((obtain ⟨u0, u1, u2⟩ := CbC_2.out _ _ hSw); go_simp; exact ⟨rfl, hSw⟩)) (h := ?_)
            simp only [Act.put, List.setIfInBounds_toArray, List.set_cons_zero, List.set_cons_succ]
            refine quietS 52 (hy := fun E Wx hSw => by (go_simp; exact ⟨rfl, hSw⟩)) (h := ?_)
            simp only [Act.put, List.setIfInBounds_toArray, List.set_cons_zero, List.set_cons_succ]
            refine quietS 53 (hy := fun E Wx hSw => by ((obtain ⟨u0, u1, u2⟩ := CbC_0.out _ _ hSw); go_simp; exact ⟨rfl, hSw⟩)) (h := ?_)
            simp only [Act.put, List.setIfInBounds_toArray, List.set_cons_zero, List.set_cons_succ]
            refine quietS 54 (hy := fun E Wx hSw => by (go_simp; exact ⟨rfl, hSw⟩)) (h := ?_)
            simp only [Act.put, List.setIfInBounds_toArray, List.set_cons_zero, List.set_cons_succ]
            refine quietS 55 (hy := fun E Wx hSw => by ((obtain ⟨u0, u1, u2⟩ := CbC_1.out _ _ hSw); go_simp; exact ⟨rfl, hSw⟩)) (h := ?_)
            simp only [Act.put, List.setIfInBounds_toArray, List.set_cons_zero, List.set_cons_succ]
            refine quietS 56 (hy := fun E Wx hSw => by (go_simp; exact ⟨rfl, hSw⟩)) (h := ?_)
            simp only [Act.put, List.setIfInBounds_toArray, List.set_cons_zero, List.set_cons_succ]
            refine quietS 57 (hy := fun E Wx hSw => by (go_simp; exact ⟨rfl, hSw⟩)) (h := ?_)
            simp only [Act.put, List.setIfInBounds_toArray, List.set_cons_zero, List.set_cons_succ]
            refine quietS 58 (hy := fun E Wx hSw => by (go_simp; exact ⟨rfl, hSw⟩)) (h := ?_)
            simp only [Act.put, List.setIfInBounds_toArray, List.set_cons_zero, List.set_cons_succ]
            refine quietS 59 (hy := fun E Wx hSw => by ((obtain ⟨u0, u1, u2⟩ := CbC_0.out _ _ hSw); go_simp; exact ⟨rfl, hSw⟩)) (h := ?_)
            simp only [Act.put, List.setIfInBounds_toArray, List.set_cons_zero, List.set_cons_succ]
            refine quietS 60 (hy := fun E Wx hSw => by (go_simp; exact ⟨rfl, hSw⟩)) (h := ?_)
            simp only [Act.put, List.setIfInBounds_toArray, List.set_cons_zero, List.set_cons_succ]
            refine quietS 61 (hy := fun E Wx hSw => by ((obtain ⟨u0, u1, u2⟩ := CbC_1.out _ _ hSw); go_simp; exact ⟨rfl, hSw⟩)) (h := ?_)
            simp only [Act.put, List.setIfInBounds_toArray, List.set_cons_zero, List.set_cons_succ]
            refine quietS 62 (hy := fun E Wx hSw => by (go_simp; exact ⟨rfl, hSw⟩)) (h := ?_)
            simp only [Act.put, List.setIfInBounds_toArray, List.set_cons_zero, List.set_cons_succ]
            refine quietS 63 (hy := fun E Wx hSw => by (go_simp; exact ⟨rfl, hSw⟩)) (h := ?_)
            simp only [Act.put, List.setIfInBounds_toArray, List.set_cons_zero, List.set_cons_succ]
            refine quietS 64 (hy := fun E Wx hSw => by (go_simp; exact symCall (KY.out _ _ _ hSw))) (h := ?_)
            simp only [Act.put, List.setIfInBounds_toArray, List.set_cons_zero, List.set_cons_succ]
            refine quietS 65 (hy := fun E Wx hSw => by (go_simp; exact ⟨rfl, hSw⟩)) (h := ?_)
            simp only [Act.put, List.setIfInBounds_toArray, List.set_cons_zero, List.set_cons_succ]
            refine quietS 66 (hy := fun E Wx hSw => by (go_simp; exact ⟨rfl, hSw⟩)) (h := ?_)
            simp only [Act.put, List.setIfInBounds_toArray, List.set_cons_zero, List.set_cons_succ]
            refine doneS (h := fun wq S => ?_)
            go_wp2_with fail
            go_meet
            exact ⟨rfl, S⟩
      case rest =>
        obtain ⟨rfl, S⟩ := hcut
        clear KZ KY HN HC HO
        have wr1 : IntKind.i64.wrap 1 = 1 := by decide
        have wr0 : IntKind.i64.wrap 0 = 0 := by decide
        rw [HbC.out] at S
        replace S : Sep w bC wc := by rw [HbC.out]; exact S
        have hbC := HbC.out
        replace S : Sep w (boxR (p8 + 1) (.cells #[.string ⟨#[]⟩, .int .i64 0, .int .i64 0, .string ⟨#[]⟩, .bool false] 38) :: boxR p8 (.cells #[.int .i64 1, .int .i64 jG, .string ⟨#[]⟩] 29) :: boxR (p6 + 1) (.cells #[.string ⟨#[]⟩, .int .i64 0, .int .i64 0, .string ⟨#[]⟩, .bool false] 38) :: boxR p6 (.cells #[.int .i64 1, .int .i64 jL, .string ⟨#[]⟩] 29) :: boxR (p4 + 1) (.cells #[.string ⟨#[]⟩, .int .i64 0, .int .i64 0, .string ⟨#[]⟩, .bool false] 38) :: boxR p4 (.cells #[.int .i64 1, .int .i64 iE, .string ⟨#[]⟩] 29) :: boxR (p2 + 1) (.cells #[.string ⟨#[]⟩, .int .i64 0, .int .i64 0, .string ⟨#[]⟩, .bool false] 38) :: boxR p2 (.cells #[.int .i64 1, .int .i64 iG, .string ⟨#[]⟩] 29) :: boxR (p0 + 1) (.cells #[.string ⟨#[]⟩, .int .i64 0, .int .i64 0, .string ⟨#[]⟩, .bool false] 38) :: boxR p0 (.cells #[.int .i64 1, .int .i64 iL, .string ⟨#[]⟩] 29) :: boxR (xa + 1) (.cells #[.int .i64 X3.kind, .int .i64 X3.n, .string X3.s] 29) :: boxR xa (.cells #[.int .i64 X2.kind, .int .i64 X2.n, .string X2.s] 29) :: boxR qL1 (.cells #[.int .i64 X0.kind, .int .i64 X0.n, .string X0.s, .int .i64 X1.kind, .int .i64 X1.n, .string X1.s, .int .i64 X2.kind, .int .i64 X2.n, .string X2.s, .int .i64 X3.kind, .int .i64 X3.n, .string X3.s] 36) :: heapR h ⟨[], 0⟩ :: boxR (b + 1 + 1) (.cells #[.int .i64 v.kind, .int .i64 v.n, .string v.s] 29) :: boxR (b + 1) (.cells #[.string s0, .string s1] 27) :: boxR b (.cells #[.int .i64 n0, .int .i64 n1] 26) :: []) wc := by rw [← hbC]; exact S
        replace S := Lib.hid S
        clear hbC
        go_upto_region 18 with fail
        go_cut [23, 24] from 177 to 190 (fun s23 s24 wx => ∃ qa qb, s23 = .pointer (some ⟨qa, 0, none⟩) ∧ s24 = .pointer (some ⟨qb, 0, none⟩) ∧ Sep w ([boxR qa (.cells #[.int .i64 0, .int .i64 0, .string ⟨#[]⟩] 29), boxR qb (.cells #[.string typeError, .int .i64 0, .int .i64 0, .string ⟨#[]⟩, .bool false] 38)] ++ bC) wx)
        case first =>
          have S1 : Sep w ([] ++ bC) (wc) := by rw [HbC.out]; exact S.out
          clear S
          refine regionS (E := [emptyR, emptyR]) (base := bC) (Sep.putE (Sep.putE S1)) ?_
          clear S1
          refine quietS 0 (hy := fun E Wx hSw => by (go_simp; exact ⟨rfl, hSw⟩)) (h := ?_)
          simp only [Act.put, List.setIfInBounds_toArray, List.set_cons_zero, List.set_cons_succ]
          refine quietS 1 (hy := fun E Wx hSw => by ((obtain ⟨u0, u1, u2⟩ := CbC_0.out _ _ hSw); go_simp; exact ⟨rfl, hSw⟩)) (h := ?_)
          simp only [Act.put, List.setIfInBounds_toArray, List.set_cons_zero, List.set_cons_succ]
          refine quietS 2 (hy := fun E Wx hSw => by (go_simp; exact ⟨rfl, hSw⟩)) (h := ?_)
          simp only [Act.put, List.setIfInBounds_toArray, List.set_cons_zero, List.set_cons_succ]
          refine quietS 3 (hy := fun E Wx hSw => by (go_simp; exact ⟨rfl, hSw⟩)) (h := ?_)
          simp only [Act.put, List.setIfInBounds_toArray, List.set_cons_zero, List.set_cons_succ]
          refine quietS 4 (hy := fun E Wx hSw => by (go_simp; exact ⟨rfl, hSw⟩)) (h := ?_)
          simp only [Act.put, List.setIfInBounds_toArray, List.set_cons_zero, List.set_cons_succ]
          refine quietS 5 (hy := fun E Wx hSw => by (go_simp; exact ⟨rfl, hSw⟩)) (h := ?_)
          simp only [Act.put, List.setIfInBounds_toArray, List.set_cons_zero, List.set_cons_succ]
          refine quietS 6 (hy := fun E Wx hSw => by ((obtain ⟨u0, u1, u2, u3, u4, u5, u6, u7, u8, u9, u10, u11⟩ := CbC_12.out _ _ hSw); go_simp; exact ⟨rfl, hSw⟩)) (h := ?_)
          simp only [Act.put, List.setIfInBounds_toArray, List.set_cons_zero, List.set_cons_succ]
          refine quietS 7 (hy := fun E Wx hSw => by (go_simp; exact symCall (KT.out _ _ hSw))) (h := ?_)
          simp only [Act.put, List.setIfInBounds_toArray, List.set_cons_zero, List.set_cons_succ]
          refine quietS 8 (hy := fun E Wx hSw => by (go_simp; exact ⟨rfl, hSw⟩)) (h := ?_)
          simp only [Act.put, List.setIfInBounds_toArray, List.set_cons_zero, List.set_cons_succ]
          refine quietS 9 (hy := fun E Wx hSw => by (go_simp; exact ⟨rfl, hSw⟩)) (h := ?_)
          simp only [Act.put, List.setIfInBounds_toArray, List.set_cons_zero, List.set_cons_succ]
          refine quietS 10 (hy := fun E Wx hSw => by (go_simp; exact ⟨rfl, hSw⟩)) (h := ?_)
          simp only [Act.put, List.setIfInBounds_toArray, List.set_cons_zero, List.set_cons_succ]
          refine readyS [11, 12] ?_
          refine allocS 0 rfl (fun q => .pointer (some ⟨q, 0, none⟩)) (.cells #[.int .i64 0, .int .i64 0, .string ⟨#[]⟩] 29) (h1 := fun Wx => by go_simp) (h2 := fun qA1 => ?_) (hs := ?_)
          · simp only [Act.put, List.setIfInBounds_toArray, List.set_cons_zero, List.set_cons_succ]
            try simp only [List.set_cons_zero, List.set_cons_succ]
            refine readyS [12] ?_
            refine allocS 1 rfl (fun q => .pointer (some ⟨q, 0, none⟩)) (.cells #[.string ⟨#[]⟩, .int .i64 0, .int .i64 0, .string ⟨#[]⟩, .bool false] 38) (h1 := fun Wx => by go_simp) (h2 := fun qB2 => ?_) (hs := nilS)
            simp only [Act.put, List.setIfInBounds_toArray, List.set_cons_zero, List.set_cons_succ]
            try simp only [List.set_cons_zero, List.set_cons_succ]
            refine readyS [13] ?_
            refine detS undef [boxR qA1 (.cells #[.int .i64 0, .int .i64 0, .string ⟨#[]⟩] 29), boxR qB2 (.cells #[.string ⟨#[]⟩, .int .i64 0, .int .i64 0, .string ⟨#[]⟩, .bool false] 38)] (h1 := fun Wx hSw => by (have hz := hSw.box (b := qA1) (o := .cells #[.int .i64 0, .int .i64 0, .string ⟨#[]⟩] 29) 0 rfl; have z0 := cellAt hz 0 (v := .int .i64 0) rfl; have y0 := frozenAt hz 0; have z1 := cellAt hz 1 (v := .int .i64 0) rfl; have y1 := frozenAt hz 1; have z2 := cellAt hz 2 (v := .string ⟨#[]⟩) rfl; have y2 := frozenAt hz 2; go_simp; exact ⟨rfl, (Sep.setBox (cs := #[.int .i64 0, .int .i64 0, .string ⟨#[]⟩]) (t := 29) (Sep.setBox (cs := #[.int .i64 0, .int .i64 0, .string ⟨#[]⟩]) (t := 29) (Sep.setBox (cs := #[.int .i64 0, .int .i64 0, .string ⟨#[]⟩]) (t := 29) hSw 0 rfl 0 (.int .i64 0)) 0 rfl 1 (.int .i64 0)) 0 rfl 2 (.string ⟨#[]⟩))⟩)) (h2 := ?_) (hs := nilS)
            simp only [Act.put, List.setIfInBounds_toArray, List.set_cons_zero, List.set_cons_succ]
            refine readyS [14] ?_
            refine detS undef [boxR qA1 (.cells #[.int .i64 0, .int .i64 0, .string ⟨#[]⟩] 29), boxR qB2 (.cells #[.string typeError, .int .i64 0, .int .i64 0, .string ⟨#[]⟩, .bool false] 38)] (h1 := fun Wx hSw => by (have hz := hSw.box (b := qB2) (o := .cells #[.string ⟨#[]⟩, .int .i64 0, .int .i64 0, .string ⟨#[]⟩, .bool false] 38) 1 rfl; have z0 := cellAt hz 0 (v := .string ⟨#[]⟩) rfl; have y0 := frozenAt hz 0; have z1 := cellAt hz 1 (v := .int .i64 0) rfl; have y1 := frozenAt hz 1; have z2 := cellAt hz 2 (v := .int .i64 0) rfl; have y2 := frozenAt hz 2; have z3 := cellAt hz 3 (v := .string ⟨#[]⟩) rfl; have y3 := frozenAt hz 3; have z4 := cellAt hz 4 (v := .bool false) rfl; have y4 := frozenAt hz 4; go_simp; exact ⟨rfl, (Sep.setBox (cs := #[.string typeError, .int .i64 0, .int .i64 0, .string ⟨#[]⟩, .bool false]) (t := 38) (Sep.setBox (cs := #[.string typeError, .int .i64 0, .int .i64 0, .string ⟨#[]⟩, .bool false]) (t := 38) (Sep.setBox (cs := #[.string typeError, .int .i64 0, .int .i64 0, .string ⟨#[]⟩, .bool false]) (t := 38) (Sep.setBox (cs := #[.string typeError, .int .i64 0, .int .i64 0, .string ⟨#[]⟩, .bool false]) (t := 38) (Sep.setBox (cs := #[.string ⟨#[]⟩, .int .i64 0, .int .i64 0, .string ⟨#[]⟩, .bool false]) (t := 38) hSw 1 rfl 0 (.string typeError)) 1 rfl 1 (.int .i64 0)) 1 rfl 2 (.int .i64 0)) 1 rfl 3 (.string ⟨#[]⟩)) 1 rfl 4 (.bool false))⟩)) (h2 := ?_) (hs := nilS)
            simp only [Act.put, List.setIfInBounds_toArray, List.set_cons_zero, List.set_cons_succ]
            refine doneS (h := fun w36 S => ?_)
            go_wp2_with fail
            go_meet
            exact ⟨_, _, rfl, rfl, S⟩
          refine allocS 1 rfl (fun q => .pointer (some ⟨q, 0, none⟩)) (.cells #[.string ⟨#[]⟩, .int .i64 0, .int .i64 0, .string ⟨#[]⟩, .bool false] 38) (h1 := fun Wx => by go_simp) (h2 := fun qB5 => ?_) (hs := ?_)
          · simp only [Act.put, List.setIfInBounds_toArray, List.set_cons_zero, List.set_cons_succ]
            try simp only [List.set_cons_zero, List.set_cons_succ]
            refine readyS [11] ?_
            refine allocS 0 rfl (fun q => .pointer (some ⟨q, 0, none⟩)) (.cells #[.int .i64 0, .int .i64 0, .string ⟨#[]⟩] 29) (h1 := fun Wx => by go_simp) (h2 := fun qA6 => ?_) (hs := nilS)
            simp only [Act.put, List.setIfInBounds_toArray, List.set_cons_zero, List.set_cons_succ]
            try simp only [List.set_cons_zero, List.set_cons_succ]
            refine readyS [13] ?_
            refine detS undef [boxR qA6 (.cells #[.int .i64 0, .int .i64 0, .string ⟨#[]⟩] 29), boxR qB5 (.cells #[.string ⟨#[]⟩, .int .i64 0, .int .i64 0, .string ⟨#[]⟩, .bool false] 38)] (h1 := fun Wx hSw => by (have hz := hSw.box (b := qA6) (o := .cells #[.int .i64 0, .int .i64 0, .string ⟨#[]⟩] 29) 0 rfl; have z0 := cellAt hz 0 (v := .int .i64 0) rfl; have y0 := frozenAt hz 0; have z1 := cellAt hz 1 (v := .int .i64 0) rfl; have y1 := frozenAt hz 1; have z2 := cellAt hz 2 (v := .string ⟨#[]⟩) rfl; have y2 := frozenAt hz 2; go_simp; exact ⟨rfl, (Sep.setBox (cs := #[.int .i64 0, .int .i64 0, .string ⟨#[]⟩]) (t := 29) (Sep.setBox (cs := #[.int .i64 0, .int .i64 0, .string ⟨#[]⟩]) (t := 29) (Sep.setBox (cs := #[.int .i64 0, .int .i64 0, .string ⟨#[]⟩]) (t := 29) hSw 0 rfl 0 (.int .i64 0)) 0 rfl 1 (.int .i64 0)) 0 rfl 2 (.string ⟨#[]⟩))⟩)) (h2 := ?_) (hs := nilS)
            simp only [Act.put, List.setIfInBounds_toArray, List.set_cons_zero, List.set_cons_succ]
            refine readyS [14] ?_
            refine detS undef [boxR qA6 (.cells #[.int .i64 0, .int .i64 0, .string ⟨#[]⟩] 29), boxR qB5 (.cells #[.string typeError, .int .i64 0, .int .i64 0, .string ⟨#[]⟩, .bool false] 38)] (h1 := fun Wx hSw => by (have hz := hSw.box (b := qB5) (o := .cells #[.string ⟨#[]⟩, .int .i64 0, .int .i64 0, .string ⟨#[]⟩, .bool false] 38) 1 rfl; have z0 := cellAt hz 0 (v := .string ⟨#[]⟩) rfl; have y0 := frozenAt hz 0; have z1 := cellAt hz 1 (v := .int .i64 0) rfl; have y1 := frozenAt hz 1; have z2 := cellAt hz 2 (v := .int .i64 0) rfl; have y2 := frozenAt hz 2; have z3 := cellAt hz 3 (v := .string ⟨#[]⟩) rfl; have y3 := frozenAt hz 3; have z4 := cellAt hz 4 (v := .bool false) rfl; have y4 := frozenAt hz 4; go_simp; exact ⟨rfl, (Sep.setBox (cs := #[.string typeError, .int .i64 0, .int .i64 0, .string ⟨#[]⟩, .bool false]) (t := 38) (Sep.setBox (cs := #[.string typeError, .int .i64 0, .int .i64 0, .string ⟨#[]⟩, .bool false]) (t := 38) (Sep.setBox (cs := #[.string typeError, .int .i64 0, .int .i64 0, .string ⟨#[]⟩, .bool false]) (t := 38) (Sep.setBox (cs := #[.string typeError, .int .i64 0, .int .i64 0, .string ⟨#[]⟩, .bool false]) (t := 38) (Sep.setBox (cs := #[.string ⟨#[]⟩, .int .i64 0, .int .i64 0, .string ⟨#[]⟩, .bool false]) (t := 38) hSw 1 rfl 0 (.string typeError)) 1 rfl 1 (.int .i64 0)) 1 rfl 2 (.int .i64 0)) 1 rfl 3 (.string ⟨#[]⟩)) 1 rfl 4 (.bool false))⟩)) (h2 := ?_) (hs := nilS)
            simp only [Act.put, List.setIfInBounds_toArray, List.set_cons_zero, List.set_cons_succ]
            refine doneS (h := fun w36 S => ?_)
            go_wp2_with fail
            go_meet
            exact ⟨_, _, rfl, rfl, S⟩
          exact nilS
        case rest =>
          obtain ⟨qa, qb, rfl, rfl, S⟩ := hcut
          replace S : Sep w (boxR qa (.cells #[.int .i64 0, .int .i64 0, .string ⟨#[]⟩] 29) :: boxR qb (.cells #[.string typeError, .int .i64 0, .int .i64 0, .string ⟨#[]⟩, .bool false] 38) :: boxR (p8 + 1) (.cells #[.string ⟨#[]⟩, .int .i64 0, .int .i64 0, .string ⟨#[]⟩, .bool false] 38) :: boxR p8 (.cells #[.int .i64 1, .int .i64 jG, .string ⟨#[]⟩] 29) :: boxR (p6 + 1) (.cells #[.string ⟨#[]⟩, .int .i64 0, .int .i64 0, .string ⟨#[]⟩, .bool false] 38) :: boxR p6 (.cells #[.int .i64 1, .int .i64 jL, .string ⟨#[]⟩] 29) :: boxR (p4 + 1) (.cells #[.string ⟨#[]⟩, .int .i64 0, .int .i64 0, .string ⟨#[]⟩, .bool false] 38) :: boxR p4 (.cells #[.int .i64 1, .int .i64 iE, .string ⟨#[]⟩] 29) :: boxR (p2 + 1) (.cells #[.string ⟨#[]⟩, .int .i64 0, .int .i64 0, .string ⟨#[]⟩, .bool false] 38) :: boxR p2 (.cells #[.int .i64 1, .int .i64 iG, .string ⟨#[]⟩] 29) :: boxR (p0 + 1) (.cells #[.string ⟨#[]⟩, .int .i64 0, .int .i64 0, .string ⟨#[]⟩, .bool false] 38) :: boxR p0 (.cells #[.int .i64 1, .int .i64 iL, .string ⟨#[]⟩] 29) :: boxR (xa + 1) (.cells #[.int .i64 X3.kind, .int .i64 X3.n, .string X3.s] 29) :: boxR xa (.cells #[.int .i64 X2.kind, .int .i64 X2.n, .string X2.s] 29) :: boxR qL1 (.cells #[.int .i64 X0.kind, .int .i64 X0.n, .string X0.s, .int .i64 X1.kind, .int .i64 X1.n, .string X1.s, .int .i64 X2.kind, .int .i64 X2.n, .string X2.s, .int .i64 X3.kind, .int .i64 X3.n, .string X3.s] 36) :: heapR h ⟨[], 0⟩ :: boxR (b + 1 + 1) (.cells #[.int .i64 v.kind, .int .i64 v.n, .string v.s] 29) :: boxR (b + 1) (.cells #[.string s0, .string s1] 27) :: boxR b (.cells #[.int .i64 n0, .int .i64 n1] 26) :: []) wc := by rw [HbC.out] at S; exact S
          have d0 := cellAt (S.box (b := qb) 1 rfl) 0 (v := .string typeError) rfl
          have d1 := cellAt (S.box (b := qb) 1 rfl) 1 (v := .int .i64 0) rfl
          have d2 := cellAt (S.box (b := qb) 1 rfl) 2 (v := .int .i64 0) rfl
          have d3 := cellAt (S.box (b := qb) 1 rfl) 3 (v := .string ⟨#[]⟩) rfl
          have d4 := cellAt (S.box (b := qb) 1 rfl) 4 (v := .bool false) rfl
          have M := Lib.hid (((raised_type wc).mono fun e W1 (hh : _ ∧ _) => (⟨hh.1, S.later hh.2⟩ : _ ∧ Sep w (boxR qa (.cells #[.int .i64 0, .int .i64 0, .string ⟨#[]⟩] 29) :: boxR qb (.cells #[.string typeError, .int .i64 0, .int .i64 0, .string ⟨#[]⟩, .bool false] 38) :: boxR (p8 + 1) (.cells #[.string ⟨#[]⟩, .int .i64 0, .int .i64 0, .string ⟨#[]⟩, .bool false] 38) :: boxR p8 (.cells #[.int .i64 1, .int .i64 jG, .string ⟨#[]⟩] 29) :: boxR (p6 + 1) (.cells #[.string ⟨#[]⟩, .int .i64 0, .int .i64 0, .string ⟨#[]⟩, .bool false] 38) :: boxR p6 (.cells #[.int .i64 1, .int .i64 jL, .string ⟨#[]⟩] 29) :: boxR (p4 + 1) (.cells #[.string ⟨#[]⟩, .int .i64 0, .int .i64 0, .string ⟨#[]⟩, .bool false] 38) :: boxR p4 (.cells #[.int .i64 1, .int .i64 iE, .string ⟨#[]⟩] 29) :: boxR (p2 + 1) (.cells #[.string ⟨#[]⟩, .int .i64 0, .int .i64 0, .string ⟨#[]⟩, .bool false] 38) :: boxR p2 (.cells #[.int .i64 1, .int .i64 iG, .string ⟨#[]⟩] 29) :: boxR (p0 + 1) (.cells #[.string ⟨#[]⟩, .int .i64 0, .int .i64 0, .string ⟨#[]⟩, .bool false] 38) :: boxR p0 (.cells #[.int .i64 1, .int .i64 iL, .string ⟨#[]⟩] 29) :: boxR (xa + 1) (.cells #[.int .i64 X3.kind, .int .i64 X3.n, .string X3.s] 29) :: boxR xa (.cells #[.int .i64 X2.kind, .int .i64 X2.n, .string X2.s] 29) :: boxR qL1 (.cells #[.int .i64 X0.kind, .int .i64 X0.n, .string X0.s, .int .i64 X1.kind, .int .i64 X1.n, .string X1.s, .int .i64 X2.kind, .int .i64 X2.n, .string X2.s, .int .i64 X3.kind, .int .i64 X3.n, .string X3.s] 36) :: heapR h ⟨[], 0⟩ :: boxR (b + 1 + 1) (.cells #[.int .i64 v.kind, .int .i64 v.n, .string v.s] 29) :: boxR (b + 1) (.cells #[.string s0, .string s1] 27) :: boxR b (.cells #[.int .i64 n0, .int .i64 n1] 26) :: []) W1)))
          clear S
          go_wp2_with fail
          refine M.out.mono ?_
          rintro e w37 ⟨rfl, S⟩
          clear M d0 d1 d2 d3 d4
          have HS : Hid (Sep w bB w37) := Lib.hid (by rw [HB.out]; exact S.tail.tail.tail.tail.tail.tail.tail.tail.tail.tail.tail.tail.tail.tail)
          clear S KT wr1 wr0
          go_wp2
          refine ⟨⟨.inr (.inr rfl), HS.out⟩, by decide⟩
    case inr.inr =>
      obtain ⟨bE, hbE⟩ : ∃ base, base = boxR qL1 (.cells #[.int .i64 X0.kind, .int .i64 X0.n, .string X0.s, .int .i64 X1.kind, .int .i64 X1.n, .string X1.s, .int .i64 X2.kind, .int .i64 X2.n, .string X2.s, .int .i64 X3.kind, .int .i64 X3.n, .string X3.s] 36) :: heapR h ⟨[], 0⟩ :: boxR (b + 1 + 1) (.cells #[.int .i64 v.kind, .int .i64 v.n, .string v.s] 29) :: boxR (b + 1) (.cells #[.string s0, .string s1] 27) :: boxR b (.cells #[.int .i64 n0, .int .i64 n1] 26) :: [] := ⟨_, rfl⟩
      have HbE := Lib.hid hbE
      have KbE : Hid (∀ W (Q : List Res), Sep w (Q ++ bE) W → True) := Lib.hid fun W Q T => by
        rw [hbE] at T
        trivial
      have CbE_0 : Hid (∀ W (Q : List Res), Sep w (Q ++ bE) W → W.cell? ⟨b, 0, none⟩ = some (.int .i64 n0) ∧ W.cell? ⟨b, 1, none⟩ = some (.int .i64 n1)) := Lib.hid fun W Q T => by
        rw [hbE] at T
        have i0 := T.box (b := b) (o := .cells #[.int .i64 n0, .int .i64 n1] 26) (Q.length + 4) (by rw [List.getElem?_append_right (by omega), Nat.add_sub_cancel_left]; rfl)
        exact ⟨cellAt i0 0 rfl, cellAt i0 1 rfl⟩
      have KYt : Hid (∀ W (Q : List Res), Sep w (Q ++ bE) W → Calls Tryz.prog 20 #[.bool true] W fun e W' => e = .returned (.agg #[.int .i64 1, .int .i64 1, .string ⟨#[]⟩]) ∧ Sep w (Q ++ bE) W') := Lib.hid fun W Q T => by
        exact (lyes_ok W true).mono fun e W' ⟨e1, e2⟩ => ⟨e1, T.later e2⟩
      have KN : Hid (∀ W (Q : List Res), Sep w (Q ++ bE) W → Calls Tryz.prog 16 #[.int .i64 n0] W fun e W' => e = .returned (.agg #[.int .i64 2, .int .i64 n0, .string ⟨#[]⟩]) ∧ Sep w (Q ++ bE) W') := Lib.hid fun W Q T => by
        exact (lnum_ok W n0).mono fun e W' ⟨e1, e2⟩ => ⟨e1, T.later e2⟩
      have KT : Hid (∀ W (Q : List Res), Sep w (Q ++ bE) W → Calls Tryz.prog 18 #[.pointer (some ⟨h, 0, none⟩), .string ⟨#[60]⟩, .agg #[.int .i64 1, .int .i64 1, .string ⟨#[]⟩], .agg #[.int .i64 2, .int .i64 n0, .string ⟨#[]⟩]] W fun e W' => e = .returned (.tuple #[.agg #[.int .i64 0, .int .i64 0, .string ⟨#[]⟩], excN typeError]) ∧ Sep w (Q ++ bE) W') := Lib.hid fun W Q T => by
        rw [HbE.out] at T ⊢
        exact cmp_lt T (Q.length + 1) (by rw [List.getElem?_append_right (by omega), Nat.add_sub_cancel_left]; rfl) ⟨1, 1, ⟨#[]⟩, by decide, by decide, by decide⟩ (vI n0 HN0.out) _ rfl
      replace S := Lib.hid S
      clear hbE
      go_upto_region 21 with fail
      go_cut [25, 26] (fun s25 s26 wx => ∃ qa qb, s25 = .pointer (some ⟨qa, 0, none⟩) ∧ s26 = .pointer (some ⟨qb, 0, none⟩) ∧ Sep w ([boxR qa (.cells #[.int .i64 0, .int .i64 0, .string ⟨#[]⟩] 29), boxR qb (.cells #[.string typeError, .int .i64 0, .int .i64 0, .string ⟨#[]⟩, .bool false] 38)] ++ bE) wx)
      case first =>
        have S1 : Sep w ([] ++ bE) (wr) := by rw [HbE.out]; exact S.out
        clear S
        refine regionS (E := [emptyR, emptyR]) (base := bE) (Sep.putE (Sep.putE S1)) ?_
        clear S1
        refine quietS 0 (hy := fun E Wx hSw => by (go_simp; exact ⟨rfl, hSw⟩)) (h := ?_)
        simp only [Act.put, List.setIfInBounds_toArray, List.set_cons_zero, List.set_cons_succ]
        refine quietS 1 (hy := fun E Wx hSw => by (go_simp; exact symCall (KYt.out _ _ hSw))) (h := ?_)
        simp only [Act.put, List.setIfInBounds_toArray, List.set_cons_zero, List.set_cons_succ]
        refine quietS 2 (hy := fun E Wx hSw => by (go_simp; exact ⟨rfl, hSw⟩)) (h := ?_)
        simp only [Act.put, List.setIfInBounds_toArray, List.set_cons_zero, List.set_cons_succ]
        refine quietS 3 (hy := fun E Wx hSw => by ((obtain ⟨u0, u1⟩ := CbE_0.out _ _ hSw); go_simp; exact ⟨rfl, hSw⟩)) (h := ?_)
        simp only [Act.put, List.setIfInBounds_toArray, List.set_cons_zero, List.set_cons_succ]
        refine quietS 4 (hy := fun E Wx hSw => by (go_simp; exact symCall (KN.out _ _ hSw))) (h := ?_)
        simp only [Act.put, List.setIfInBounds_toArray, List.set_cons_zero, List.set_cons_succ]
        refine quietS 5 (hy := fun E Wx hSw => by (go_simp; exact symCall (KT.out _ _ hSw))) (h := ?_)
        simp only [Act.put, List.setIfInBounds_toArray, List.set_cons_zero, List.set_cons_succ]
        refine quietS 6 (hy := fun E Wx hSw => by (go_simp; exact ⟨rfl, hSw⟩)) (h := ?_)
        simp only [Act.put, List.setIfInBounds_toArray, List.set_cons_zero, List.set_cons_succ]
        refine quietS 7 (hy := fun E Wx hSw => by (go_simp; exact ⟨rfl, hSw⟩)) (h := ?_)
        simp only [Act.put, List.setIfInBounds_toArray, List.set_cons_zero, List.set_cons_succ]
        refine quietS 8 (hy := fun E Wx hSw => by (go_simp; exact ⟨rfl, hSw⟩)) (h := ?_)
        simp only [Act.put, List.setIfInBounds_toArray, List.set_cons_zero, List.set_cons_succ]
        refine readyS [9, 10] ?_
        refine allocS 0 rfl (fun q => .pointer (some ⟨q, 0, none⟩)) (.cells #[.int .i64 0, .int .i64 0, .string ⟨#[]⟩] 29) (h1 := fun Wx => by go_simp) (h2 := fun qA1 => ?_) (hs := ?_)
        · simp only [Act.put, List.setIfInBounds_toArray, List.set_cons_zero, List.set_cons_succ]
          try simp only [List.set_cons_zero, List.set_cons_succ]
          refine readyS [10] ?_
          refine allocS 1 rfl (fun q => .pointer (some ⟨q, 0, none⟩)) (.cells #[.string ⟨#[]⟩, .int .i64 0, .int .i64 0, .string ⟨#[]⟩, .bool false] 38) (h1 := fun Wx => by go_simp) (h2 := fun qB2 => ?_) (hs := nilS)
          simp only [Act.put, List.setIfInBounds_toArray, List.set_cons_zero, List.set_cons_succ]
          try simp only [List.set_cons_zero, List.set_cons_succ]
          refine readyS [11] ?_
          refine detS undef [boxR qA1 (.cells #[.int .i64 0, .int .i64 0, .string ⟨#[]⟩] 29), boxR qB2 (.cells #[.string ⟨#[]⟩, .int .i64 0, .int .i64 0, .string ⟨#[]⟩, .bool false] 38)] (h1 := fun Wx hSw => by (have hz := hSw.box (b := qA1) (o := .cells #[.int .i64 0, .int .i64 0, .string ⟨#[]⟩] 29) 0 rfl; have z0 := cellAt hz 0 (v := .int .i64 0) rfl; have y0 := frozenAt hz 0; have z1 := cellAt hz 1 (v := .int .i64 0) rfl; have y1 := frozenAt hz 1; have z2 := cellAt hz 2 (v := .string ⟨#[]⟩) rfl; have y2 := frozenAt hz 2; go_simp; exact ⟨rfl, (Sep.setBox (cs := #[.int .i64 0, .int .i64 0, .string ⟨#[]⟩]) (t := 29) (Sep.setBox (cs := #[.int .i64 0, .int .i64 0, .string ⟨#[]⟩]) (t := 29) (Sep.setBox (cs := #[.int .i64 0, .int .i64 0, .string ⟨#[]⟩]) (t := 29) hSw 0 rfl 0 (.int .i64 0)) 0 rfl 1 (.int .i64 0)) 0 rfl 2 (.string ⟨#[]⟩))⟩)) (h2 := ?_) (hs := nilS)
          simp only [Act.put, List.setIfInBounds_toArray, List.set_cons_zero, List.set_cons_succ]
          refine readyS [12] ?_
          refine detS undef [boxR qA1 (.cells #[.int .i64 0, .int .i64 0, .string ⟨#[]⟩] 29), boxR qB2 (.cells #[.string typeError, .int .i64 0, .int .i64 0, .string ⟨#[]⟩, .bool false] 38)] (h1 := fun Wx hSw => by (have hz := hSw.box (b := qB2) (o := .cells #[.string ⟨#[]⟩, .int .i64 0, .int .i64 0, .string ⟨#[]⟩, .bool false] 38) 1 rfl; have z0 := cellAt hz 0 (v := .string ⟨#[]⟩) rfl; have y0 := frozenAt hz 0; have z1 := cellAt hz 1 (v := .int .i64 0) rfl; have y1 := frozenAt hz 1; have z2 := cellAt hz 2 (v := .int .i64 0) rfl; have y2 := frozenAt hz 2; have z3 := cellAt hz 3 (v := .string ⟨#[]⟩) rfl; have y3 := frozenAt hz 3; have z4 := cellAt hz 4 (v := .bool false) rfl; have y4 := frozenAt hz 4; go_simp; exact ⟨rfl, (Sep.setBox (cs := #[.string typeError, .int .i64 0, .int .i64 0, .string ⟨#[]⟩, .bool false]) (t := 38) (Sep.setBox (cs := #[.string typeError, .int .i64 0, .int .i64 0, .string ⟨#[]⟩, .bool false]) (t := 38) (Sep.setBox (cs := #[.string typeError, .int .i64 0, .int .i64 0, .string ⟨#[]⟩, .bool false]) (t := 38) (Sep.setBox (cs := #[.string typeError, .int .i64 0, .int .i64 0, .string ⟨#[]⟩, .bool false]) (t := 38) (Sep.setBox (cs := #[.string ⟨#[]⟩, .int .i64 0, .int .i64 0, .string ⟨#[]⟩, .bool false]) (t := 38) hSw 1 rfl 0 (.string typeError)) 1 rfl 1 (.int .i64 0)) 1 rfl 2 (.int .i64 0)) 1 rfl 3 (.string ⟨#[]⟩)) 1 rfl 4 (.bool false))⟩)) (h2 := ?_) (hs := nilS)
          simp only [Act.put, List.setIfInBounds_toArray, List.set_cons_zero, List.set_cons_succ]
          refine doneS (h := fun w61 S => ?_)
          go_wp2_with fail
          go_meet
          exact ⟨_, _, rfl, rfl, S⟩
        refine allocS 1 rfl (fun q => .pointer (some ⟨q, 0, none⟩)) (.cells #[.string ⟨#[]⟩, .int .i64 0, .int .i64 0, .string ⟨#[]⟩, .bool false] 38) (h1 := fun Wx => by go_simp) (h2 := fun qB5 => ?_) (hs := ?_)
        · simp only [Act.put, List.setIfInBounds_toArray, List.set_cons_zero, List.set_cons_succ]
          try simp only [List.set_cons_zero, List.set_cons_succ]
          refine readyS [9] ?_
          refine allocS 0 rfl (fun q => .pointer (some ⟨q, 0, none⟩)) (.cells #[.int .i64 0, .int .i64 0, .string ⟨#[]⟩] 29) (h1 := fun Wx => by go_simp) (h2 := fun qA6 => ?_) (hs := nilS)
          simp only [Act.put, List.setIfInBounds_toArray, List.set_cons_zero, List.set_cons_succ]
          try simp only [List.set_cons_zero, List.set_cons_succ]
          refine readyS [11] ?_
          refine detS undef [boxR qA6 (.cells #[.int .i64 0, .int .i64 0, .string ⟨#[]⟩] 29), boxR qB5 (.cells #[.string ⟨#[]⟩, .int .i64 0, .int .i64 0, .string ⟨#[]⟩, .bool false] 38)] (h1 := fun Wx hSw => by (have hz := hSw.box (b := qA6) (o := .cells #[.int .i64 0, .int .i64 0, .string ⟨#[]⟩] 29) 0 rfl; have z0 := cellAt hz 0 (v := .int .i64 0) rfl; have y0 := frozenAt hz 0; have z1 := cellAt hz 1 (v := .int .i64 0) rfl; have y1 := frozenAt hz 1; have z2 := cellAt hz 2 (v := .string ⟨#[]⟩) rfl; have y2 := frozenAt hz 2; go_simp; exact ⟨rfl, (Sep.setBox (cs := #[.int .i64 0, .int .i64 0, .string ⟨#[]⟩]) (t := 29) (Sep.setBox (cs := #[.int .i64 0, .int .i64 0, .string ⟨#[]⟩]) (t := 29) (Sep.setBox (cs := #[.int .i64 0, .int .i64 0, .string ⟨#[]⟩]) (t := 29) hSw 0 rfl 0 (.int .i64 0)) 0 rfl 1 (.int .i64 0)) 0 rfl 2 (.string ⟨#[]⟩))⟩)) (h2 := ?_) (hs := nilS)
          simp only [Act.put, List.setIfInBounds_toArray, List.set_cons_zero, List.set_cons_succ]
          refine readyS [12] ?_
          refine detS undef [boxR qA6 (.cells #[.int .i64 0, .int .i64 0, .string ⟨#[]⟩] 29), boxR qB5 (.cells #[.string typeError, .int .i64 0, .int .i64 0, .string ⟨#[]⟩, .bool false] 38)] (h1 := fun Wx hSw => by (have hz := hSw.box (b := qB5) (o := .cells #[.string ⟨#[]⟩, .int .i64 0, .int .i64 0, .string ⟨#[]⟩, .bool false] 38) 1 rfl; have z0 := cellAt hz 0 (v := .string ⟨#[]⟩) rfl; have y0 := frozenAt hz 0; have z1 := cellAt hz 1 (v := .int .i64 0) rfl; have y1 := frozenAt hz 1; have z2 := cellAt hz 2 (v := .int .i64 0) rfl; have y2 := frozenAt hz 2; have z3 := cellAt hz 3 (v := .string ⟨#[]⟩) rfl; have y3 := frozenAt hz 3; have z4 := cellAt hz 4 (v := .bool false) rfl; have y4 := frozenAt hz 4; go_simp; exact ⟨rfl, (Sep.setBox (cs := #[.string typeError, .int .i64 0, .int .i64 0, .string ⟨#[]⟩, .bool false]) (t := 38) (Sep.setBox (cs := #[.string typeError, .int .i64 0, .int .i64 0, .string ⟨#[]⟩, .bool false]) (t := 38) (Sep.setBox (cs := #[.string typeError, .int .i64 0, .int .i64 0, .string ⟨#[]⟩, .bool false]) (t := 38) (Sep.setBox (cs := #[.string typeError, .int .i64 0, .int .i64 0, .string ⟨#[]⟩, .bool false]) (t := 38) (Sep.setBox (cs := #[.string ⟨#[]⟩, .int .i64 0, .int .i64 0, .string ⟨#[]⟩, .bool false]) (t := 38) hSw 1 rfl 0 (.string typeError)) 1 rfl 1 (.int .i64 0)) 1 rfl 2 (.int .i64 0)) 1 rfl 3 (.string ⟨#[]⟩)) 1 rfl 4 (.bool false))⟩)) (h2 := ?_) (hs := nilS)
          simp only [Act.put, List.setIfInBounds_toArray, List.set_cons_zero, List.set_cons_succ]
          refine doneS (h := fun w61 S => ?_)
          go_wp2_with fail
          go_meet
          exact ⟨_, _, rfl, rfl, S⟩
        exact nilS
      case rest =>
        obtain ⟨qa, qb, rfl, rfl, S⟩ := hcut
        replace S : Sep w (boxR qa (.cells #[.int .i64 0, .int .i64 0, .string ⟨#[]⟩] 29) :: boxR qb (.cells #[.string typeError, .int .i64 0, .int .i64 0, .string ⟨#[]⟩, .bool false] 38) :: boxR qL1 (.cells #[.int .i64 X0.kind, .int .i64 X0.n, .string X0.s, .int .i64 X1.kind, .int .i64 X1.n, .string X1.s, .int .i64 X2.kind, .int .i64 X2.n, .string X2.s, .int .i64 X3.kind, .int .i64 X3.n, .string X3.s] 36) :: heapR h ⟨[], 0⟩ :: boxR (b + 1 + 1) (.cells #[.int .i64 v.kind, .int .i64 v.n, .string v.s] 29) :: boxR (b + 1) (.cells #[.string s0, .string s1] 27) :: boxR b (.cells #[.int .i64 n0, .int .i64 n1] 26) :: []) wc := by rw [HbE.out] at S; exact S
        clear KYt KN KT
        obtain ⟨r, hr, h3⟩ : ∃ r, cmpV (ordRes false true v v) false = r ∧ ((r = .tuple #[.agg #[.int .i64 1, .int .i64 1, .string ⟨#[]⟩], excZ] ∧ v.kind = 2) ∨ (r = .tuple #[.agg #[.int .i64 1, .int .i64 1, .string ⟨#[]⟩], excZ] ∧ v.kind = 3) ∨ (r = .tuple #[zeroV, excN typeError] ∧ ¬ v.kind = 2 ∧ ¬ v.kind = 3)) := ⟨_, rfl, ord_self v⟩
        have MC := cmp_ge S 3 rfl v v r hr.symm
        have SS := Lib.hid S
        clear hr S
        rcases h3 with ⟨rfl, hv⟩ | ⟨rfl, hv⟩ | ⟨rfl, hv, hv3⟩
        case inl =>
          have S := SS.out
          have d0 := cellAt (S.box (b := b + 1 + 1) 4 rfl) 0 (v := .int .i64 v.kind) rfl
          have d1 := cellAt (S.box (b := b + 1 + 1) 4 rfl) 1 (v := .int .i64 v.n) rfl
          have d2 := cellAt (S.box (b := b + 1 + 1) 4 rfl) 2 (v := .string v.s) rfl
          have HV := Lib.hid hv 
          have M := Lib.hid MC
          clear S MC SS hv
          go_wp2_with fail
          refine M.out.mono ?_
          rintro e w71 ⟨rfl, S⟩
          clear M d0 d1 d2
          replace S : Sep w (boxR qa (.cells #[.int .i64 0, .int .i64 0, .string ⟨#[]⟩] 29) :: boxR qb (.cells #[.string typeError, .int .i64 0, .int .i64 0, .string ⟨#[]⟩, .bool false] 38) :: boxR qL1 (.cells #[.int .i64 X0.kind, .int .i64 X0.n, .string X0.s, .int .i64 X1.kind, .int .i64 X1.n, .string X1.s, .int .i64 X2.kind, .int .i64 X2.n, .string X2.s, .int .i64 X3.kind, .int .i64 X3.n, .string X3.s] 36) :: heapR h ⟨[], 0⟩ :: boxR (b + 1 + 1) (.cells #[.int .i64 v.kind, .int .i64 v.n, .string v.s] 29) :: boxR (b + 1) (.cells #[.string s0, .string s1] 27) :: boxR b (.cells #[.int .i64 n0, .int .i64 n1] 26) :: []) _ := S
          obtain ⟨p0, hp0⟩ : ∃ gx_, (w71.heap.size) = gx_ := ⟨_, rfl⟩
          replace S := ((S.alloc (.cells #[.int .i64 1, .int .i64 1, .string ⟨#[]⟩] 29)).alloc (.cells #[.string ⟨#[]⟩, .int .i64 0, .int .i64 0, .string ⟨#[]⟩, .bool false] 38))
          simp only [World.size_alloc, hp0] at S
          replace S : Sep w (boxR (p0 + 1) (.cells #[.string ⟨#[]⟩, .int .i64 0, .int .i64 0, .string ⟨#[]⟩, .bool false] 38) :: boxR p0 (.cells #[.int .i64 1, .int .i64 1, .string ⟨#[]⟩] 29) :: boxR qa (.cells #[.int .i64 0, .int .i64 0, .string ⟨#[]⟩] 29) :: boxR qb (.cells #[.string typeError, .int .i64 0, .int .i64 0, .string ⟨#[]⟩, .bool false] 38) :: boxR qL1 (.cells #[.int .i64 X0.kind, .int .i64 X0.n, .string X0.s, .int .i64 X1.kind, .int .i64 X1.n, .string X1.s, .int .i64 X2.kind, .int .i64 X2.n, .string X2.s, .int .i64 X3.kind, .int .i64 X3.n, .string X3.s] 36) :: heapR h ⟨[], 0⟩ :: boxR (b + 1 + 1) (.cells #[.int .i64 v.kind, .int .i64 v.n, .string v.s] 29) :: boxR (b + 1) (.cells #[.string s0, .string s1] 27) :: boxR b (.cells #[.int .i64 n0, .int .i64 n1] 26) :: []) _ := S
          have hv := HV.out
          have v0 := cellAt (S.box (b := b + 1 + 1) 6 rfl) 0 (v := .int .i64 v.kind) rfl
          have v1 := cellAt (S.box (b := b + 1 + 1) 6 rfl) 1 (v := .int .i64 v.n) rfl
          have v2 := cellAt (S.box (b := b + 1 + 1) 6 rfl) 2 (v := .string v.s) rfl
          have d0 := cellAt (S.box (b := qb) 3 rfl) 0 (v := .string typeError) rfl
          have d1 := cellAt (S.box (b := qb) 3 rfl) 1 (v := .int .i64 0) rfl
          have d2 := cellAt (S.box (b := qb) 3 rfl) 2 (v := .int .i64 0) rfl
          have d3 := cellAt (S.box (b := qb) 3 rfl) 3 (v := .string ⟨#[]⟩) rfl
          have d4 := cellAt (S.box (b := qb) 3 rfl) 4 (v := .bool false) rfl
          have M := Lib.hid (((raised_type _).mono fun e W1 (hh : _ ∧ _) => (⟨hh.1, S.later hh.2⟩ : _ ∧ Sep w (boxR (p0 + 1) (.cells #[.string ⟨#[]⟩, .int .i64 0, .int .i64 0, .string ⟨#[]⟩, .bool false] 38) :: boxR p0 (.cells #[.int .i64 1, .int .i64 1, .string ⟨#[]⟩] 29) :: boxR qa (.cells #[.int .i64 0, .int .i64 0, .string ⟨#[]⟩] 29) :: boxR qb (.cells #[.string typeError, .int .i64 0, .int .i64 0, .string ⟨#[]⟩, .bool false] 38) :: boxR qL1 (.cells #[.int .i64 X0.kind, .int .i64 X0.n, .string X0.s, .int .i64 X1.kind, .int .i64 X1.n, .string X1.s, .int .i64 X2.kind, .int .i64 X2.n, .string X2.s, .int .i64 X3.kind, .int .i64 X3.n, .string X3.s] 36) :: heapR h ⟨[], 0⟩ :: boxR (b + 1 + 1) (.cells #[.int .i64 v.kind, .int .i64 v.n, .string v.s] 29) :: boxR (b + 1) (.cells #[.string s0, .string s1] 27) :: boxR b (.cells #[.int .i64 n0, .int .i64 n1] 26) :: []) W1)))
          clear S
          go_wp2_with fail
          try simp only [hp0]
          refine M.out.mono ?_
          rintro e w72 ⟨rfl, S⟩
          clear M d0 d1 d2 d3 d4 hp0
          clear v0 v1 v2
          have d0 := cellAt (S.box (b := p0 + 1) 0 rfl) 0 (v := .string ⟨#[]⟩) rfl
          have d1 := cellAt (S.box (b := p0 + 1) 0 rfl) 1 (v := .int .i64 0) rfl
          have d2 := cellAt (S.box (b := p0 + 1) 0 rfl) 2 (v := .int .i64 0) rfl
          have d3 := cellAt (S.box (b := p0 + 1) 0 rfl) 3 (v := .string ⟨#[]⟩) rfl
          have d4 := cellAt (S.box (b := p0 + 1) 0 rfl) 4 (v := .bool false) rfl
          have M := Lib.hid (((none_z _).mono fun e W1 (hh : _ ∧ _) => (⟨hh.1, S.later hh.2⟩ : _ ∧ Sep w (boxR (p0 + 1) (.cells #[.string ⟨#[]⟩, .int .i64 0, .int .i64 0, .string ⟨#[]⟩, .bool false] 38) :: boxR p0 (.cells #[.int .i64 1, .int .i64 1, .string ⟨#[]⟩] 29) :: boxR qa (.cells #[.int .i64 0, .int .i64 0, .string ⟨#[]⟩] 29) :: boxR qb (.cells #[.string typeError, .int .i64 0, .int .i64 0, .string ⟨#[]⟩, .bool false] 38) :: boxR qL1 (.cells #[.int .i64 X0.kind, .int .i64 X0.n, .string X0.s, .int .i64 X1.kind, .int .i64 X1.n, .string X1.s, .int .i64 X2.kind, .int .i64 X2.n, .string X2.s, .int .i64 X3.kind, .int .i64 X3.n, .string X3.s] 36) :: heapR h ⟨[], 0⟩ :: boxR (b + 1 + 1) (.cells #[.int .i64 v.kind, .int .i64 v.n, .string v.s] 29) :: boxR (b + 1) (.cells #[.string s0, .string s1] 27) :: boxR b (.cells #[.int .i64 n0, .int .i64 n1] 26) :: []) W1)))
          clear S
          go_wp2_with fail
          refine M.out.mono ?_
          rintro e w73 ⟨rfl, S⟩
          clear M d0 d1 d2 d3 d4
          replace S := Lib.hid S.below
          go_wp2
          go_ret
          exact ⟨rfl, S.out⟩
        case inr.inl =>
          have S := SS.out
          have d0 := cellAt (S.box (b := b + 1 + 1) 4 rfl) 0 (v := .int .i64 v.kind) rfl
          have d1 := cellAt (S.box (b := b + 1 + 1) 4 rfl) 1 (v := .int .i64 v.n) rfl
          have d2 := cellAt (S.box (b := b + 1 + 1) 4 rfl) 2 (v := .string v.s) rfl
          have HV := Lib.hid hv 
          have M := Lib.hid MC
          clear S MC SS hv
          go_wp2_with fail
          refine M.out.mono ?_
          rintro e w71 ⟨rfl, S⟩
          clear M d0 d1 d2
          replace S : Sep w (boxR qa (.cells #[.int .i64 0, .int .i64 0, .string ⟨#[]⟩] 29) :: boxR qb (.cells #[.string typeError, .int .i64 0, .int .i64 0, .string ⟨#[]⟩, .bool false] 38) :: boxR qL1 (.cells #[.int .i64 X0.kind, .int .i64 X0.n, .string X0.s, .int .i64 X1.kind, .int .i64 X1.n, .string X1.s, .int .i64 X2.kind, .int .i64 X2.n, .string X2.s, .int .i64 X3.kind, .int .i64 X3.n, .string X3.s] 36) :: heapR h ⟨[], 0⟩ :: boxR (b + 1 + 1) (.cells #[.int .i64 v.kind, .int .i64 v.n, .string v.s] 29) :: boxR (b + 1) (.cells #[.string s0, .string s1] 27) :: boxR b (.cells #[.int .i64 n0, .int .i64 n1] 26) :: []) _ := S
          obtain ⟨p0, hp0⟩ : ∃ gx_, (w71.heap.size) = gx_ := ⟨_, rfl⟩
          replace S := ((S.alloc (.cells #[.int .i64 1, .int .i64 1, .string ⟨#[]⟩] 29)).alloc (.cells #[.string ⟨#[]⟩, .int .i64 0, .int .i64 0, .string ⟨#[]⟩, .bool false] 38))
          simp only [World.size_alloc, hp0] at S
          replace S : Sep w (boxR (p0 + 1) (.cells #[.string ⟨#[]⟩, .int .i64 0, .int .i64 0, .string ⟨#[]⟩, .bool false] 38) :: boxR p0 (.cells #[.int .i64 1, .int .i64 1, .string ⟨#[]⟩] 29) :: boxR qa (.cells #[.int .i64 0, .int .i64 0, .string ⟨#[]⟩] 29) :: boxR qb (.cells #[.string typeError, .int .i64 0, .int .i64 0, .string ⟨#[]⟩, .bool false] 38) :: boxR qL1 (.cells #[.int .i64 X0.kind, .int .i64 X0.n, .string X0.s, .int .i64 X1.kind, .int .i64 X1.n, .string X1.s, .int .i64 X2.kind, .int .i64 X2.n, .string X2.s, .int .i64 X3.kind, .int .i64 X3.n, .string X3.s] 36) :: heapR h ⟨[], 0⟩ :: boxR (b + 1 + 1) (.cells #[.int .i64 v.kind, .int .i64 v.n, .string v.s] 29) :: boxR (b + 1) (.cells #[.string s0, .string s1] 27) :: boxR b (.cells #[.int .i64 n0, .int .i64 n1] 26) :: []) _ := S
          have hv := HV.out
          have v0 := cellAt (S.box (b := b + 1 + 1) 6 rfl) 0 (v := .int .i64 v.kind) rfl
          have v1 := cellAt (S.box (b := b + 1 + 1) 6 rfl) 1 (v := .int .i64 v.n) rfl
          have v2 := cellAt (S.box (b := b + 1 + 1) 6 rfl) 2 (v := .string v.s) rfl
          have d0 := cellAt (S.box (b := qb) 3 rfl) 0 (v := .string typeError) rfl
          have d1 := cellAt (S.box (b := qb) 3 rfl) 1 (v := .int .i64 0) rfl
          have d2 := cellAt (S.box (b := qb) 3 rfl) 2 (v := .int .i64 0) rfl
          have d3 := cellAt (S.box (b := qb) 3 rfl) 3 (v := .string ⟨#[]⟩) rfl
          have d4 := cellAt (S.box (b := qb) 3 rfl) 4 (v := .bool false) rfl
          have M := Lib.hid (((raised_type _).mono fun e W1 (hh : _ ∧ _) => (⟨hh.1, S.later hh.2⟩ : _ ∧ Sep w (boxR (p0 + 1) (.cells #[.string ⟨#[]⟩, .int .i64 0, .int .i64 0, .string ⟨#[]⟩, .bool false] 38) :: boxR p0 (.cells #[.int .i64 1, .int .i64 1, .string ⟨#[]⟩] 29) :: boxR qa (.cells #[.int .i64 0, .int .i64 0, .string ⟨#[]⟩] 29) :: boxR qb (.cells #[.string typeError, .int .i64 0, .int .i64 0, .string ⟨#[]⟩, .bool false] 38) :: boxR qL1 (.cells #[.int .i64 X0.kind, .int .i64 X0.n, .string X0.s, .int .i64 X1.kind, .int .i64 X1.n, .string X1.s, .int .i64 X2.kind, .int .i64 X2.n, .string X2.s, .int .i64 X3.kind, .int .i64 X3.n, .string X3.s] 36) :: heapR h ⟨[], 0⟩ :: boxR (b + 1 + 1) (.cells #[.int .i64 v.kind, .int .i64 v.n, .string v.s] 29) :: boxR (b + 1) (.cells #[.string s0, .string s1] 27) :: boxR b (.cells #[.int .i64 n0, .int .i64 n1] 26) :: []) W1)))
          clear S
          go_wp2_with fail
          try simp only [hp0]
          refine M.out.mono ?_
          rintro e w72 ⟨rfl, S⟩
          clear M d0 d1 d2 d3 d4 hp0
          clear v0 v1 v2
          have d0 := cellAt (S.box (b := p0 + 1) 0 rfl) 0 (v := .string ⟨#[]⟩) rfl
          have d1 := cellAt (S.box (b := p0 + 1) 0 rfl) 1 (v := .int .i64 0) rfl
          have d2 := cellAt (S.box (b := p0 + 1) 0 rfl) 2 (v := .int .i64 0) rfl
          have d3 := cellAt (S.box (b := p0 + 1) 0 rfl) 3 (v := .string ⟨#[]⟩) rfl
          have d4 := cellAt (S.box (b := p0 + 1) 0 rfl) 4 (v := .bool false) rfl
          have M := Lib.hid (((none_z _).mono fun e W1 (hh : _ ∧ _) => (⟨hh.1, S.later hh.2⟩ : _ ∧ Sep w (boxR (p0 + 1) (.cells #[.string ⟨#[]⟩, .int .i64 0, .int .i64 0, .string ⟨#[]⟩, .bool false] 38) :: boxR p0 (.cells #[.int .i64 1, .int .i64 1, .string ⟨#[]⟩] 29) :: boxR qa (.cells #[.int .i64 0, .int .i64 0, .string ⟨#[]⟩] 29) :: boxR qb (.cells #[.string typeError, .int .i64 0, .int .i64 0, .string ⟨#[]⟩, .bool false] 38) :: boxR qL1 (.cells #[.int .i64 X0.kind, .int .i64 X0.n, .string X0.s, .int .i64 X1.kind, .int .i64 X1.n, .string X1.s, .int .i64 X2.kind, .int .i64 X2.n, .string X2.s, .int .i64 X3.kind, .int .i64 X3.n, .string X3.s] 36) :: heapR h ⟨[], 0⟩ :: boxR (b + 1 + 1) (.cells #[.int .i64 v.kind, .int .i64 v.n, .string v.s] 29) :: boxR (b + 1) (.cells #[.string s0, .string s1] 27) :: boxR b (.cells #[.int .i64 n0, .int .i64 n1] 26) :: []) W1)))
          clear S
          go_wp2_with fail
          refine M.out.mono ?_
          rintro e w73 ⟨rfl, S⟩
          clear M d0 d1 d2 d3 d4
          replace S := Lib.hid S.below
          go_wp2
          go_ret
          exact ⟨rfl, S.out⟩
        case inr.inr =>
          have S := SS.out
          have d0 := cellAt (S.box (b := b + 1 + 1) 4 rfl) 0 (v := .int .i64 v.kind) rfl
          have d1 := cellAt (S.box (b := b + 1 + 1) 4 rfl) 1 (v := .int .i64 v.n) rfl
          have d2 := cellAt (S.box (b := b + 1 + 1) 4 rfl) 2 (v := .string v.s) rfl
          have HV := Lib.hid hv
          have HV3 := Lib.hid hv3
          have M := Lib.hid MC
          clear S MC SS hv hv3
          go_wp2_with fail
          refine M.out.mono ?_
          rintro e w71 ⟨rfl, S⟩
          clear M d0 d1 d2
          replace S : Sep w (boxR qa (.cells #[.int .i64 0, .int .i64 0, .string ⟨#[]⟩] 29) :: boxR qb (.cells #[.string typeError, .int .i64 0, .int .i64 0, .string ⟨#[]⟩, .bool false] 38) :: boxR qL1 (.cells #[.int .i64 X0.kind, .int .i64 X0.n, .string X0.s, .int .i64 X1.kind, .int .i64 X1.n, .string X1.s, .int .i64 X2.kind, .int .i64 X2.n, .string X2.s, .int .i64 X3.kind, .int .i64 X3.n, .string X3.s] 36) :: heapR h ⟨[], 0⟩ :: boxR (b + 1 + 1) (.cells #[.int .i64 v.kind, .int .i64 v.n, .string v.s] 29) :: boxR (b + 1) (.cells #[.string s0, .string s1] 27) :: boxR b (.cells #[.int .i64 n0, .int .i64 n1] 26) :: []) _ := S
          obtain ⟨p0, hp0⟩ : ∃ gx_, (w71.heap.size) = gx_ := ⟨_, rfl⟩
          replace S := ((S.alloc (.cells #[.int .i64 0, .int .i64 0, .string ⟨#[]⟩] 29)).alloc (.cells #[.string typeError, .int .i64 0, .int .i64 0, .string ⟨#[]⟩, .bool false] 38))
          simp only [World.size_alloc, hp0] at S
          replace S : Sep w (boxR (p0 + 1) (.cells #[.string typeError, .int .i64 0, .int .i64 0, .string ⟨#[]⟩, .bool false] 38) :: boxR p0 (.cells #[.int .i64 0, .int .i64 0, .string ⟨#[]⟩] 29) :: boxR qa (.cells #[.int .i64 0, .int .i64 0, .string ⟨#[]⟩] 29) :: boxR qb (.cells #[.string typeError, .int .i64 0, .int .i64 0, .string ⟨#[]⟩, .bool false] 38) :: boxR qL1 (.cells #[.int .i64 X0.kind, .int .i64 X0.n, .string X0.s, .int .i64 X1.kind, .int .i64 X1.n, .string X1.s, .int .i64 X2.kind, .int .i64 X2.n, .string X2.s, .int .i64 X3.kind, .int .i64 X3.n, .string X3.s] 36) :: heapR h ⟨[], 0⟩ :: boxR (b + 1 + 1) (.cells #[.int .i64 v.kind, .int .i64 v.n, .string v.s] 29) :: boxR (b + 1) (.cells #[.string s0, .string s1] 27) :: boxR b (.cells #[.int .i64 n0, .int .i64 n1] 26) :: []) _ := S
          have hv := HV.out
          have hv3 := HV3.out
          have hv4 : (v.kind == 2) = false := by simp [hv]
          have hv5 : (v.kind == 3) = false := by simp [hv3]
          have v0 := cellAt (S.box (b := b + 1 + 1) 6 rfl) 0 (v := .int .i64 v.kind) rfl
          have v1 := cellAt (S.box (b := b + 1 + 1) 6 rfl) 1 (v := .int .i64 v.n) rfl
          have v2 := cellAt (S.box (b := b + 1 + 1) 6 rfl) 2 (v := .string v.s) rfl
          have d0 := cellAt (S.box (b := qb) 3 rfl) 0 (v := .string typeError) rfl
          have d1 := cellAt (S.box (b := qb) 3 rfl) 1 (v := .int .i64 0) rfl
          have d2 := cellAt (S.box (b := qb) 3 rfl) 2 (v := .int .i64 0) rfl
          have d3 := cellAt (S.box (b := qb) 3 rfl) 3 (v := .string ⟨#[]⟩) rfl
          have d4 := cellAt (S.box (b := qb) 3 rfl) 4 (v := .bool false) rfl
          have M := Lib.hid (((raised_type _).mono fun e W1 (hh : _ ∧ _) => (⟨hh.1, S.later hh.2⟩ : _ ∧ Sep w (boxR (p0 + 1) (.cells #[.string typeError, .int .i64 0, .int .i64 0, .string ⟨#[]⟩, .bool false] 38) :: boxR p0 (.cells #[.int .i64 0, .int .i64 0, .string ⟨#[]⟩] 29) :: boxR qa (.cells #[.int .i64 0, .int .i64 0, .string ⟨#[]⟩] 29) :: boxR qb (.cells #[.string typeError, .int .i64 0, .int .i64 0, .string ⟨#[]⟩, .bool false] 38) :: boxR qL1 (.cells #[.int .i64 X0.kind, .int .i64 X0.n, .string X0.s, .int .i64 X1.kind, .int .i64 X1.n, .string X1.s, .int .i64 X2.kind, .int .i64 X2.n, .string X2.s, .int .i64 X3.kind, .int .i64 X3.n, .string X3.s] 36) :: heapR h ⟨[], 0⟩ :: boxR (b + 1 + 1) (.cells #[.int .i64 v.kind, .int .i64 v.n, .string v.s] 29) :: boxR (b + 1) (.cells #[.string s0, .string s1] 27) :: boxR b (.cells #[.int .i64 n0, .int .i64 n1] 26) :: []) W1)))
          clear S
          go_wp2_with fail
          try simp only [hp0]
          refine M.out.mono ?_
          rintro e w72 ⟨rfl, S⟩
          clear M d0 d1 d2 d3 d4 hp0
          clear v0 v1 v2
          have d0 := cellAt (S.box (b := p0 + 1) 0 rfl) 0 (v := .string typeError) rfl
          have d1 := cellAt (S.box (b := p0 + 1) 0 rfl) 1 (v := .int .i64 0) rfl
          have d2 := cellAt (S.box (b := p0 + 1) 0 rfl) 2 (v := .int .i64 0) rfl
          have d3 := cellAt (S.box (b := p0 + 1) 0 rfl) 3 (v := .string ⟨#[]⟩) rfl
          have d4 := cellAt (S.box (b := p0 + 1) 0 rfl) 4 (v := .bool false) rfl
          have M := Lib.hid (((none_type _).mono fun e W1 (hh : _ ∧ _) => (⟨hh.1, S.later hh.2⟩ : _ ∧ Sep w (boxR (p0 + 1) (.cells #[.string typeError, .int .i64 0, .int .i64 0, .string ⟨#[]⟩, .bool false] 38) :: boxR p0 (.cells #[.int .i64 0, .int .i64 0, .string ⟨#[]⟩] 29) :: boxR qa (.cells #[.int .i64 0, .int .i64 0, .string ⟨#[]⟩] 29) :: boxR qb (.cells #[.string typeError, .int .i64 0, .int .i64 0, .string ⟨#[]⟩, .bool false] 38) :: boxR qL1 (.cells #[.int .i64 X0.kind, .int .i64 X0.n, .string X0.s, .int .i64 X1.kind, .int .i64 X1.n, .string X1.s, .int .i64 X2.kind, .int .i64 X2.n, .string X2.s, .int .i64 X3.kind, .int .i64 X3.n, .string X3.s] 36) :: heapR h ⟨[], 0⟩ :: boxR (b + 1 + 1) (.cells #[.int .i64 v.kind, .int .i64 v.n, .string v.s] 29) :: boxR (b + 1) (.cells #[.string s0, .string s1] 27) :: boxR b (.cells #[.int .i64 n0, .int .i64 n1] 26) :: []) W1)))
          clear S
          go_wp2_with fail
          refine M.out.mono ?_
          rintro e w73 ⟨rfl, S⟩
          clear M d0 d1 d2 d3 d4
          have d0 := cellAt (S.box (b := p0 + 1) 0 rfl) 0 (v := .string typeError) rfl
          have d1 := cellAt (S.box (b := p0 + 1) 0 rfl) 1 (v := .int .i64 0) rfl
          have d2 := cellAt (S.box (b := p0 + 1) 0 rfl) 2 (v := .int .i64 0) rfl
          have d3 := cellAt (S.box (b := p0 + 1) 0 rfl) 3 (v := .string ⟨#[]⟩) rfl
          have d4 := cellAt (S.box (b := p0 + 1) 0 rfl) 4 (v := .bool false) rfl
          have M := Lib.hid (((raised_type _).mono fun e W1 (hh : _ ∧ _) => (⟨hh.1, S.later hh.2⟩ : _ ∧ Sep w (boxR (p0 + 1) (.cells #[.string typeError, .int .i64 0, .int .i64 0, .string ⟨#[]⟩, .bool false] 38) :: boxR p0 (.cells #[.int .i64 0, .int .i64 0, .string ⟨#[]⟩] 29) :: boxR qa (.cells #[.int .i64 0, .int .i64 0, .string ⟨#[]⟩] 29) :: boxR qb (.cells #[.string typeError, .int .i64 0, .int .i64 0, .string ⟨#[]⟩, .bool false] 38) :: boxR qL1 (.cells #[.int .i64 X0.kind, .int .i64 X0.n, .string X0.s, .int .i64 X1.kind, .int .i64 X1.n, .string X1.s, .int .i64 X2.kind, .int .i64 X2.n, .string X2.s, .int .i64 X3.kind, .int .i64 X3.n, .string X3.s] 36) :: heapR h ⟨[], 0⟩ :: boxR (b + 1 + 1) (.cells #[.int .i64 v.kind, .int .i64 v.n, .string v.s] 29) :: boxR (b + 1) (.cells #[.string s0, .string s1] 27) :: boxR b (.cells #[.int .i64 n0, .int .i64 n1] 26) :: []) W1)))
          clear S
          go_wp2_with fail
          refine M.out.mono ?_
          rintro e w74 ⟨rfl, S⟩
          clear M d0 d1 d2 d3 d4
          replace S := Lib.hid S.below
          go_wp2
          go_ret
          exact ⟨rfl, S.out⟩
set_option maxRecDepth 100000 in
theorem lifted (os : Os) (started : os.Started) (H : Type) (enc : TypeId × Value → H) :
    ReturnsInHanded {} Tryz.checked os 4 .any (Rows.operateOrderSpec.pre6 enc Tryz.prog Tryz.f4 Rows.operateOrderRow.domain false) (Rows.operateOrderSpec.post enc Tryz.prog Tryz.f4 false true false false) := by
  refine law_lift (C := Tryz.checked) own started (by kernel_rfl) Tryz.func4
    (ChangeSpec.witness6 (enc := enc) (C := Tryz.checked) false ⟨#[], #[.agg #[.int .i64 0, .int .i64 0], .agg #[.string ⟨#[]⟩, .string ⟨#[]⟩], .agg #[.int .i64 0, .int .i64 0, .string ⟨#[]⟩]], []⟩ 8 (by kernel_rfl) (by kernel_rfl) (by kernel_rfl) (by kernel_rfl))
    (by kernel_rfl) (by kernel_rfl) rfl (fun ds h => by
      match ds, h with
      | [d1, d2, d3], _ => exact ⟨rfl, rfl, rfl⟩) rfl Tryz.underlying4 ?_
  intro W base args ds ps hval hA hlt hwt hsh
  rw [Tryz.params4] at hA hval
  obtain ⟨v0, vs0, d0, ds0, p0, q0, hargs, rfl, rfl, h0, r0⟩ := trodAll_cons hA
  obtain ⟨v1, vs1, d1, ds1, p1, q1, rfl, rfl, rfl, h1, r1⟩ := trodAll_cons r0
  obtain ⟨v2, vs2, d2, ds2, p2, q2, rfl, rfl, rfl, h2, r2⟩ := trodAll_cons r1
  obtain ⟨rfl, rfl, rfl⟩ := trodAll_nil r2
  obtain rfl : args = #[v0, v1, v2] := by cases args; simp_all
  obtain ⟨cs0, rfl, hsz0⟩ := okWide_array Tryz.underlying26 (hval 0 26 v0 rfl rfl)
  obtain ⟨fuel0, hf0⟩ := h0
  obtain ⟨a0, b0, e0, wa0, wb0⟩ := ints2_of_trod (cs := cs0.toList) hf0
  obtain rfl : cs0 = [.int .i64 a0, .int .i64 b0].toArray := by rw [← e0]
  obtain ⟨cs1, rfl, hsz1⟩ := okWide_array Tryz.underlying27 (hval 1 27 v1 rfl rfl)
  obtain ⟨fuel1, hf1⟩ := h1
  obtain ⟨a1, b1, e1, wa1, wb1⟩ := strs2_of_trod (cs := cs1.toList) hf1
  obtain rfl : cs1 = [.string a1, .string b1].toArray := by rw [← e1]
  obtain ⟨cs2, rfl, hsz2⟩ := okWide_struct Tryz.underlying29 (hval 2 29 v2 rfl rfl)
  obtain ⟨fuel2, hf2⟩ := h2
  obtain ⟨x2, e2⟩ := val_of_trod (cs := cs2.toList) hf2
  obtain rfl : cs2 = x2.cells.toArray := by rw [← e2]
  -- WALK
  exact walk W a0 b0 a1 b1 x2 wa0 wb0 wa1 wb1
theorem proved : Rows.OperateOrderSaid :=
  OpenClaim.holds_of_wide 4 Tryz.f4 rfl rfl rfl rfl rfl rfl rfl ⟨rfl, rfl, rfl, rfl, rfl⟩ rfl rfl rfl rfl rfl (by kernel_rfl) Tryz.func4 (by kernel_rfl)
    (of_decide_eq_true (by kernel_rfl)) (by unfold Func.isWrapper; first | (rw [if_pos (by decide +kernel)]; kernel_rfl) | (rw [if_neg (by decide +kernel)]; exact ⟨rfl, rfl⟩))
    (fun os started H enc _ => lifted os started H enc)
#print axioms proved
end Go.Proofs.YtellmfimmghidaaGreat.operateOrder
