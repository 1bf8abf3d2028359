/- ch 16: str, lost, Index. -/
import Derived.Test.YtellmfimmghidaaGreatOprH
namespace Go.Proofs.YtellmfimmghidaaGreat
set_option linter.unusedSimpArgs false
open Go.RowKit
set_option linter.unusedVariables false
section
variable {w W : World} {Rs : List Res} {h : Nat} {H : HeapM}
theorem okI_place {n : Nat} {i : Int} (hn : n ≤ 9000000) (hi : okI i) : okI (placeP n i) := by
  have hb := okI_range hi
  unfold placeP
  split
  · exact okI_of (by omega)
  · exact hi
theorem idx_at (S : Sep w Rs W) (i : Nat) (hi : Rs[i]? = some (heapR h H)) (v x : V) (j : Int) (hj : okI j) (hx : H.at v j = some x) : Calls Tryz.prog 74 #[.pointer (some ⟨h, 0, none⟩), .agg #[.int .i64 v.kind, .int .i64 v.n, .string v.s], .int .i64 j] W fun e W' => e = .returned (.tuple #[.agg #[.int .i64 x.kind, .int .i64 x.n, .string x.s], .bool true]) ∧ Sep w Rs W' := by
  have hh := S.at_ i hi v j hj
  rw [hx] at hh
  exact hh.mono fun e W' ⟨e1, e2, _⟩ => ⟨e1, e2⟩
theorem idx_get (S : Sep w Rs W) (i : Nat) (hi : Rs[i]? = some (heapR h H)) (v k x : V) (hx : H.get v k = some x) : Calls Tryz.prog 43 #[.pointer (some ⟨h, 0, none⟩), .agg #[.int .i64 v.kind, .int .i64 v.n, .string v.s], .agg #[.int .i64 k.kind, .int .i64 k.n, .string k.s]] W fun e W' => e = .returned (.tuple #[.agg #[.int .i64 x.kind, .int .i64 x.n, .string x.s], .bool true]) ∧ Sep w Rs W' := by
  have hh := S.get_ i hi v k
  rw [hx] at hh
  exact hh.mono fun e W' ⟨e1, e2, _⟩ => ⟨e1, e2⟩
theorem idx_get_no (S : Sep w Rs W) (i : Nat) (hi : Rs[i]? = some (heapR h H)) (v k : V) (hx : H.get v k = none) : Calls Tryz.prog 43 #[.pointer (some ⟨h, 0, none⟩), .agg #[.int .i64 v.kind, .int .i64 v.n, .string v.s], .agg #[.int .i64 k.kind, .int .i64 k.n, .string k.s]] W fun e W' => e = .returned (.tuple #[zeroV, .bool false]) ∧ Sep w Rs W' := by
  have hh := S.get_ i hi v k
  rw [hx] at hh
  exact hh.mono fun e W' ⟨e1, e2, _⟩ => ⟨e1, e2⟩
set_option maxRecDepth 100000 in
set_option maxHeartbeats 12800000 in
theorem ostr_no (S : Sep w Rs W) (s nm : ByteArray) (hn : nm.toList ≠ []) : Calls Tryz.prog 70 #[.string s, .string nm] W fun e W' => e = .returned (.tuple #[zeroV, excN nm]) ∧ Sep w Rs W' := by
  have hne : (nm.toList != []) = true := by simpa using hn
  have hne2 : nm.toList.isEmpty = false := by cases h : nm.toList <;> simp_all
  obtain ⟨b, hb⟩ : ∃ gx_, (W.heap.size) = gx_ := ⟨_, rfl⟩
  replace S := ((S.alloc (.cells #[.int .i64 0, .int .i64 0, .string ⟨#[]⟩] 29)).alloc (.cells #[.string ⟨#[]⟩, .int .i64 0, .int .i64 0, .string ⟨#[]⟩, .bool false] 38))
  simp only [World.size_alloc, hb] at S
  replace S : Sep w (boxR (b + 1) (.cells #[.string ⟨#[]⟩, .int .i64 0, .int .i64 0, .string ⟨#[]⟩, .bool false] 38) :: boxR b (.cells #[.int .i64 0, .int .i64 0, .string ⟨#[]⟩] 29) :: Rs) ((W.alloc (.cells #[.int .i64 0, .int .i64 0, .string ⟨#[]⟩] 29)).alloc (.cells #[.string ⟨#[]⟩, .int .i64 0, .int .i64 0, .string ⟨#[]⟩, .bool false] 38)) := S
  obtain ⟨bA, hbs⟩ : ∃ l, l = Rs := ⟨_, rfl⟩
  have HBS := Lib.hid hbs
  replace S : Sep w ([boxR (b + 1) (.cells #[.string ⟨#[]⟩, .int .i64 0, .int .i64 0, .string ⟨#[]⟩, .bool false] 38), boxR b (.cells #[.int .i64 0, .int .i64 0, .string ⟨#[]⟩] 29)] ++ bA) ((W.alloc (.cells #[.int .i64 0, .int .i64 0, .string ⟨#[]⟩] 29)).alloc (.cells #[.string ⟨#[]⟩, .int .i64 0, .int .i64 0, .string ⟨#[]⟩, .bool false] 38)) := by
    rw [hbs]
    refine (show Sep w ([boxR (b + 1) (.cells #[.string ⟨#[]⟩, .int .i64 0, .int .i64 0, .string ⟨#[]⟩, .bool false] 38), boxR b (.cells #[.int .i64 0, .int .i64 0, .string ⟨#[]⟩] 29)] ++ Rs) _ from S).perm ?_
    exact (show ([boxR (b + 1) (.cells #[.string ⟨#[]⟩, .int .i64 0, .int .i64 0, .string ⟨#[]⟩, .bool false] 38), boxR b (.cells #[.int .i64 0, .int .i64 0, .string ⟨#[]⟩] 29)] ++ Rs).Perm ([boxR (b + 1) (.cells #[.string ⟨#[]⟩, .int .i64 0, .int .i64 0, .string ⟨#[]⟩, .bool false] 38), boxR b (.cells #[.int .i64 0, .int .i64 0, .string ⟨#[]⟩] 29)] ++ ([] ++ Rs)) from by rw [← List.append_assoc]; exact List.Perm.append_right Rs (by exact perm_of [0, 1] (by show (List.range' 0 2).Perm [0, 1]; decide) (by rfl)))
  clear hbs
  replace S := Lib.hid S
  go_enter Tryz.func70, Tryz.ntmps70
  go_upto_region 2 with fail
  try simp only [World.size_alloc, hb]
  clear hb
  have KR : Hid (∀ W (Q : List Res), Sep w (Q ++ bA) W → Calls Tryz.prog 57 #[.string nm] W fun e W' => e = .returned (excN nm) ∧ Sep w (Q ++ bA) W') := Lib.hid fun W Q T => by
    exact (raise_ok W nm).mono fun e W' ⟨e1, e2⟩ => ⟨e1, T.later e2⟩
  refine regionL (E := [boxR (b + 1) (.cells #[.string ⟨#[]⟩, .int .i64 0, .int .i64 0, .string ⟨#[]⟩, .bool false] 38), boxR b (.cells #[.int .i64 0, .int .i64 0, .string ⟨#[]⟩] 29)]) (base := bA) S.out ?_
  clear S
  refine quietL (hy := fun E Wx hSw => by (go_simp; exact ⟨rfl, hSw⟩)) (h := ?_)
  simp only [Act.put, List.setIfInBounds_toArray, List.set_cons_zero, List.set_cons_succ]
  refine quietL (hy := fun E Wx hSw => by (go_simp; exact ⟨rfl, hSw⟩)) (h := ?_)
  simp only [Act.put, List.setIfInBounds_toArray, List.set_cons_zero, List.set_cons_succ]
  refine quietL (hy := fun E Wx hSw => by (go_simp; exact symCall (KR.out _ _ hSw))) (h := ?_)
  simp only [Act.put, List.setIfInBounds_toArray, List.set_cons_zero, List.set_cons_succ]
  refine detL undef [boxR (b + 1) (.cells #[.string ⟨#[]⟩, .int .i64 0, .int .i64 0, .string ⟨#[]⟩, .bool false] 38), boxR b (.cells #[.int .i64 0, .int .i64 0, .string ⟨#[]⟩] 29)] (h1 := fun Wx hSw => by (have hz := hSw.box (b := b) (o := .cells #[.int .i64 0, .int .i64 0, .string ⟨#[]⟩] 29) 1 rfl; have z0 := cellAt hz 0 (v := .int .i64 0) rfl; have y0 := frozenAt hz 0; have z1 := cellAt hz 1 (v := .int .i64 0) rfl; have y1 := frozenAt hz 1; have z2 := cellAt hz 2 (v := .string ⟨#[]⟩) rfl; have y2 := frozenAt hz 2; go_simp; exact ⟨rfl, (Sep.setBox (cs := #[.int .i64 0, .int .i64 0, .string ⟨#[]⟩]) (t := 29) (Sep.setBox (cs := #[.int .i64 0, .int .i64 0, .string ⟨#[]⟩]) (t := 29) (Sep.setBox (cs := #[.int .i64 0, .int .i64 0, .string ⟨#[]⟩]) (t := 29) hSw 1 rfl 0 (.int .i64 0)) 1 rfl 1 (.int .i64 0)) 1 rfl 2 (.string ⟨#[]⟩))⟩)) (h2 := ?_)
  simp only [Act.put, List.setIfInBounds_toArray, List.set_cons_zero, List.set_cons_succ]
  refine detL undef [boxR (b + 1) (.cells #[.string nm, .int .i64 0, .int .i64 0, .string ⟨#[]⟩, .bool false] 38), boxR b (.cells #[.int .i64 0, .int .i64 0, .string ⟨#[]⟩] 29)] (h1 := fun Wx hSw => by (have hz := hSw.box (b := (b + 1)) (o := .cells #[.string ⟨#[]⟩, .int .i64 0, .int .i64 0, .string ⟨#[]⟩, .bool false] 38) 0 rfl; have z0 := cellAt hz 0 (v := .string ⟨#[]⟩) rfl; have y0 := frozenAt hz 0; have z1 := cellAt hz 1 (v := .int .i64 0) rfl; have y1 := frozenAt hz 1; have z2 := cellAt hz 2 (v := .int .i64 0) rfl; have y2 := frozenAt hz 2; have z3 := cellAt hz 3 (v := .string ⟨#[]⟩) rfl; have y3 := frozenAt hz 3; have z4 := cellAt hz 4 (v := .bool false) rfl; have y4 := frozenAt hz 4; go_simp; exact ⟨rfl, (Sep.setBox (cs := #[.string nm, .int .i64 0, .int .i64 0, .string ⟨#[]⟩, .bool false]) (t := 38) (Sep.setBox (cs := #[.string nm, .int .i64 0, .int .i64 0, .string ⟨#[]⟩, .bool false]) (t := 38) (Sep.setBox (cs := #[.string nm, .int .i64 0, .int .i64 0, .string ⟨#[]⟩, .bool false]) (t := 38) (Sep.setBox (cs := #[.string nm, .int .i64 0, .int .i64 0, .string ⟨#[]⟩, .bool false]) (t := 38) (Sep.setBox (cs := #[.string ⟨#[]⟩, .int .i64 0, .int .i64 0, .string ⟨#[]⟩, .bool false]) (t := 38) hSw 0 rfl 0 (.string nm)) 0 rfl 1 (.int .i64 0)) 0 rfl 2 (.int .i64 0)) 0 rfl 3 (.string ⟨#[]⟩)) 0 rfl 4 (.bool false))⟩)) (h2 := ?_)
  simp only [Act.put, List.setIfInBounds_toArray, List.set_cons_zero, List.set_cons_succ]
  intro w1 S
  replace S := Lib.hid S
  clear hne hne2
  replace S := S.out
  have r0 := cellAt (S.box (b := b) 1 rfl) 0 (v := .int .i64 0) rfl
  have r1 := cellAt (S.box (b := b) 1 rfl) 1 (v := .int .i64 0) rfl
  have r2 := cellAt (S.box (b := b) 1 rfl) 2 (v := .string ⟨#[]⟩) rfl
  have r3 := cellAt (S.box (b := b + 1) 0 rfl) 0 (v := .string nm) rfl
  have r4 := cellAt (S.box (b := b + 1) 0 rfl) 1 (v := .int .i64 0) rfl
  have r5 := cellAt (S.box (b := b + 1) 0 rfl) 2 (v := .int .i64 0) rfl
  have r6 := cellAt (S.box (b := b + 1) 0 rfl) 3 (v := .string ⟨#[]⟩) rfl
  have r7 := cellAt (S.box (b := b + 1) 0 rfl) 4 (v := .bool false) rfl
  replace S := Lib.hid S
  go_wp2
  refine bodyPost_ret (v := .tuple #[zeroV, excN nm]) (by simp [results, Tryz.results70, go_sem, r0, r1, r2, r3, r4, r5, r6, r7]) rfl ⟨rfl, ?_⟩
  replace S := S.out
  rw [HBS.out] at S
  exact S.tail.tail
set_option maxRecDepth 100000 in
set_option maxHeartbeats 12800000 in
theorem lost_ok (S : Sep w Rs W) (x : V) : Calls Tryz.prog 76 #[.agg #[.int .i64 x.kind, .int .i64 x.n, .string x.s]] W fun e W' => e = .returned (.agg #[.string keyError, .int .i64 x.kind, .int .i64 x.n, .string x.s, .bool true]) ∧ Sep w Rs W' := by
  obtain ⟨b, hb⟩ : ∃ gx_, (W.heap.size) = gx_ := ⟨_, rfl⟩
  replace S := ((S.alloc (.cells #[.int .i64 x.kind, .int .i64 x.n, .string x.s] 29)).alloc (.cells #[.string ⟨#[]⟩, .int .i64 0, .int .i64 0, .string ⟨#[]⟩, .bool false] 38))
  simp only [World.size_alloc, hb] at S
  replace S : Sep w (boxR (b + 1) (.cells #[.string ⟨#[]⟩, .int .i64 0, .int .i64 0, .string ⟨#[]⟩, .bool false] 38) :: boxR b (.cells #[.int .i64 x.kind, .int .i64 x.n, .string x.s] 29) :: Rs) ((W.alloc (.cells #[.int .i64 x.kind, .int .i64 x.n, .string x.s] 29)).alloc (.cells #[.string ⟨#[]⟩, .int .i64 0, .int .i64 0, .string ⟨#[]⟩, .bool false] 38)) := S
  obtain ⟨bA, hbs⟩ : ∃ l, l = boxR b (.cells #[.int .i64 x.kind, .int .i64 x.n, .string x.s] 29) :: Rs := ⟨_, rfl⟩
  have HBS := Lib.hid hbs
  replace S : Sep w ([boxR (b + 1) (.cells #[.string ⟨#[]⟩, .int .i64 0, .int .i64 0, .string ⟨#[]⟩, .bool false] 38)] ++ bA) ((W.alloc (.cells #[.int .i64 x.kind, .int .i64 x.n, .string x.s] 29)).alloc (.cells #[.string ⟨#[]⟩, .int .i64 0, .int .i64 0, .string ⟨#[]⟩, .bool false] 38)) := by
    rw [hbs]
    refine (show Sep w ([boxR (b + 1) (.cells #[.string ⟨#[]⟩, .int .i64 0, .int .i64 0, .string ⟨#[]⟩, .bool false] 38), boxR b (.cells #[.int .i64 x.kind, .int .i64 x.n, .string x.s] 29)] ++ Rs) _ from S).perm ?_
    exact (show ([boxR (b + 1) (.cells #[.string ⟨#[]⟩, .int .i64 0, .int .i64 0, .string ⟨#[]⟩, .bool false] 38), boxR b (.cells #[.int .i64 x.kind, .int .i64 x.n, .string x.s] 29)] ++ Rs).Perm ([boxR (b + 1) (.cells #[.string ⟨#[]⟩, .int .i64 0, .int .i64 0, .string ⟨#[]⟩, .bool false] 38)] ++ ([boxR b (.cells #[.int .i64 x.kind, .int .i64 x.n, .string x.s] 29)] ++ Rs)) from by rw [← List.append_assoc]; exact List.Perm.append_right Rs (by exact perm_of [0, 1] (by show (List.range' 0 2).Perm [0, 1]; decide) (by rfl)))
  have C0 : Hid (∀ W (Q : List Res), Sep w (Q ++ bA) W → W.cell? ⟨b, 0, none⟩ = some (.int .i64 x.kind) ∧ W.cell? ⟨b, 1, none⟩ = some (.int .i64 x.n) ∧ W.cell? ⟨b, 2, none⟩ = some (.string x.s)) := Lib.hid fun W Q T => by
    rw [hbs] at T
    have i0 := T.box (b := b) (o := .cells #[.int .i64 x.kind, .int .i64 x.n, .string x.s] 29) (Q.length + 0) (by rw [List.getElem?_append_right (by omega), Nat.add_sub_cancel_left]; rfl)
    exact ⟨cellAt i0 0 rfl, cellAt i0 1 rfl, cellAt i0 2 rfl⟩
  clear hbs
  replace S := Lib.hid S
  go_enter Tryz.func76, Tryz.ntmps76
  go_upto_region 1 with fail
  try simp only [World.size_alloc, hb]
  clear hb
  refine regionL (E := [boxR (b + 1) (.cells #[.string ⟨#[]⟩, .int .i64 0, .int .i64 0, .string ⟨#[]⟩, .bool false] 38)]) (base := bA) S.out ?_
  clear S
  refine quietL (hy := fun E Wx hSw => by ((obtain ⟨u0, u1, u2⟩ := C0.out _ _ hSw); go_simp; exact ⟨rfl, hSw⟩)) (h := ?_)
  simp only [Act.put, List.setIfInBounds_toArray, List.set_cons_zero, List.set_cons_succ]
  refine quietL (hy := fun E Wx hSw => by (go_simp; exact ⟨rfl, hSw⟩)) (h := ?_)
  simp only [Act.put, List.setIfInBounds_toArray, List.set_cons_zero, List.set_cons_succ]
  refine detL undef [boxR (b + 1) (.cells #[.string keyError, .int .i64 x.kind, .int .i64 x.n, .string x.s, .bool true] 38)] (h1 := fun Wx hSw => by (have hz := hSw.box (b := (b + 1)) (o := .cells #[.string ⟨#[]⟩, .int .i64 0, .int .i64 0, .string ⟨#[]⟩, .bool false] 38) 0 rfl; have z0 := cellAt hz 0 (v := .string ⟨#[]⟩) rfl; have y0 := frozenAt hz 0; have z1 := cellAt hz 1 (v := .int .i64 0) rfl; have y1 := frozenAt hz 1; have z2 := cellAt hz 2 (v := .int .i64 0) rfl; have y2 := frozenAt hz 2; have z3 := cellAt hz 3 (v := .string ⟨#[]⟩) rfl; have y3 := frozenAt hz 3; have z4 := cellAt hz 4 (v := .bool false) rfl; have y4 := frozenAt hz 4; go_simp; exact ⟨rfl, (Sep.setBox (cs := #[.string keyError, .int .i64 x.kind, .int .i64 x.n, .string x.s, .bool false]) (t := 38) (Sep.setBox (cs := #[.string keyError, .int .i64 x.kind, .int .i64 x.n, .string ⟨#[]⟩, .bool false]) (t := 38) (Sep.setBox (cs := #[.string keyError, .int .i64 x.kind, .int .i64 0, .string ⟨#[]⟩, .bool false]) (t := 38) (Sep.setBox (cs := #[.string keyError, .int .i64 0, .int .i64 0, .string ⟨#[]⟩, .bool false]) (t := 38) (Sep.setBox (cs := #[.string ⟨#[]⟩, .int .i64 0, .int .i64 0, .string ⟨#[]⟩, .bool false]) (t := 38) hSw 0 rfl 0 (.string keyError)) 0 rfl 1 (.int .i64 x.kind)) 0 rfl 2 (.int .i64 x.n)) 0 rfl 3 (.string x.s)) 0 rfl 4 (.bool true))⟩)) (h2 := ?_)
  simp only [Act.put, List.setIfInBounds_toArray, List.set_cons_zero, List.set_cons_succ]
  intro w1 S
  replace S := Lib.hid S
  replace S := S.out
  have r0 := cellAt (S.box (b := b + 1) 0 rfl) 0 (v := .string keyError) rfl
  have r1 := cellAt (S.box (b := b + 1) 0 rfl) 1 (v := .int .i64 x.kind) rfl
  have r2 := cellAt (S.box (b := b + 1) 0 rfl) 2 (v := .int .i64 x.n) rfl
  have r3 := cellAt (S.box (b := b + 1) 0 rfl) 3 (v := .string x.s) rfl
  have r4 := cellAt (S.box (b := b + 1) 0 rfl) 4 (v := .bool true) rfl
  replace S := Lib.hid S
  go_wp2
  refine bodyPost_ret (v := .agg #[.string keyError, .int .i64 x.kind, .int .i64 x.n, .string x.s, .bool true]) (by simp [results, Tryz.results76, go_sem, r0, r1, r2, r3, r4]) rfl ⟨rfl, ?_⟩
  replace S := S.out
  rw [HBS.out] at S
  exact S.tail.tail
set_option maxRecDepth 100000 in
set_option maxHeartbeats 12800000 in
theorem idx_w2 (S : Sep w Rs W) (i : Nat) (hi : Rs[i]? = some (heapR h H)) (x y : V) (hx3 : ¬ x.kind = 3) (hr : H.rowB x = true) (hd : ¬ H.kind x = 3) (hy : ¬ y.kind = 2) : Calls Tryz.prog 34 #[.pointer (some ⟨h, 0, none⟩), .agg #[.int .i64 x.kind, .int .i64 x.n, .string x.s], .agg #[.int .i64 y.kind, .int .i64 y.n, .string y.s]] W fun e W' => e = .returned (.tuple #[zeroV, excN typeError]) ∧ Sep w Rs W' := by
  have hx4 : (x.kind == 3) = false := by simpa using hx3
  have hy2 : (y.kind == 2) = false := by simpa using hy
  obtain ⟨kx, hK⟩ : ∃ k, H.kind x = k := ⟨_, rfl⟩
  have hkd : (kx == 3) = false := by rw [← hK]; simpa using hd
  have HK := Lib.hid hK
  have HR := Lib.hid hr
  clear hx3 hK hr hd hy
  obtain ⟨b, hb⟩ : ∃ gx_, (W.heap.size) = gx_ := ⟨_, rfl⟩
  replace S := ((((S.alloc (.cells #[.int .i64 x.kind, .int .i64 x.n, .string x.s] 29)).alloc (.cells #[.int .i64 y.kind, .int .i64 y.n, .string y.s] 29)).alloc (.cells #[.int .i64 0, .int .i64 0, .string ⟨#[]⟩] 29)).alloc (.cells #[.string ⟨#[]⟩, .int .i64 0, .int .i64 0, .string ⟨#[]⟩, .bool false] 38))
  simp only [World.size_alloc, hb] at S
  replace S : Sep w (boxR (b + 1 + 1 + 1) (.cells #[.string ⟨#[]⟩, .int .i64 0, .int .i64 0, .string ⟨#[]⟩, .bool false] 38) :: boxR (b + 1 + 1) (.cells #[.int .i64 0, .int .i64 0, .string ⟨#[]⟩] 29) :: boxR (b + 1) (.cells #[.int .i64 y.kind, .int .i64 y.n, .string y.s] 29) :: boxR b (.cells #[.int .i64 x.kind, .int .i64 x.n, .string x.s] 29) :: Rs) ((((W.alloc (.cells #[.int .i64 x.kind, .int .i64 x.n, .string x.s] 29)).alloc (.cells #[.int .i64 y.kind, .int .i64 y.n, .string y.s] 29)).alloc (.cells #[.int .i64 0, .int .i64 0, .string ⟨#[]⟩] 29)).alloc (.cells #[.string ⟨#[]⟩, .int .i64 0, .int .i64 0, .string ⟨#[]⟩, .bool false] 38)) := S
  obtain ⟨bA, hbs⟩ : ∃ l, l = boxR (b + 1) (.cells #[.int .i64 y.kind, .int .i64 y.n, .string y.s] 29) :: boxR b (.cells #[.int .i64 x.kind, .int .i64 x.n, .string x.s] 29) :: Rs := ⟨_, rfl⟩
  have HBS := Lib.hid hbs
  replace S : Sep w ([boxR (b + 1 + 1 + 1) (.cells #[.string ⟨#[]⟩, .int .i64 0, .int .i64 0, .string ⟨#[]⟩, .bool false] 38), boxR (b + 1 + 1) (.cells #[.int .i64 0, .int .i64 0, .string ⟨#[]⟩] 29)] ++ bA) ((((W.alloc (.cells #[.int .i64 x.kind, .int .i64 x.n, .string x.s] 29)).alloc (.cells #[.int .i64 y.kind, .int .i64 y.n, .string y.s] 29)).alloc (.cells #[.int .i64 0, .int .i64 0, .string ⟨#[]⟩] 29)).alloc (.cells #[.string ⟨#[]⟩, .int .i64 0, .int .i64 0, .string ⟨#[]⟩, .bool false] 38)) := by
    rw [hbs]
    refine (show Sep w ([boxR (b + 1 + 1 + 1) (.cells #[.string ⟨#[]⟩, .int .i64 0, .int .i64 0, .string ⟨#[]⟩, .bool false] 38), boxR (b + 1 + 1) (.cells #[.int .i64 0, .int .i64 0, .string ⟨#[]⟩] 29), boxR (b + 1) (.cells #[.int .i64 y.kind, .int .i64 y.n, .string y.s] 29), boxR b (.cells #[.int .i64 x.kind, .int .i64 x.n, .string x.s] 29)] ++ Rs) _ from S).perm ?_
    exact (show ([boxR (b + 1 + 1 + 1) (.cells #[.string ⟨#[]⟩, .int .i64 0, .int .i64 0, .string ⟨#[]⟩, .bool false] 38), boxR (b + 1 + 1) (.cells #[.int .i64 0, .int .i64 0, .string ⟨#[]⟩] 29), boxR (b + 1) (.cells #[.int .i64 y.kind, .int .i64 y.n, .string y.s] 29), boxR b (.cells #[.int .i64 x.kind, .int .i64 x.n, .string x.s] 29)] ++ Rs).Perm ([boxR (b + 1 + 1 + 1) (.cells #[.string ⟨#[]⟩, .int .i64 0, .int .i64 0, .string ⟨#[]⟩, .bool false] 38), boxR (b + 1 + 1) (.cells #[.int .i64 0, .int .i64 0, .string ⟨#[]⟩] 29)] ++ ([boxR (b + 1) (.cells #[.int .i64 y.kind, .int .i64 y.n, .string y.s] 29), boxR b (.cells #[.int .i64 x.kind, .int .i64 x.n, .string x.s] 29)] ++ Rs)) from by rw [← List.append_assoc]; exact List.Perm.append_right Rs (by exact perm_of [0, 1, 2, 3] (by show (List.range' 0 4).Perm [0, 1, 2, 3]; decide) (by rfl)))
  have C1 : Hid (∀ W (Q : List Res), Sep w (Q ++ bA) W → W.cell? ⟨b + 1, 0, none⟩ = some (.int .i64 y.kind) ∧ W.cell? ⟨b + 1, 1, none⟩ = some (.int .i64 y.n) ∧ W.cell? ⟨b + 1, 2, none⟩ = some (.string y.s)) := Lib.hid fun W Q T => by
    rw [hbs] at T
    have i0 := T.box (b := b + 1) (o := .cells #[.int .i64 y.kind, .int .i64 y.n, .string y.s] 29) (Q.length + 0) (by rw [List.getElem?_append_right (by omega), Nat.add_sub_cancel_left]; rfl)
    exact ⟨cellAt i0 0 rfl, cellAt i0 1 rfl, cellAt i0 2 rfl⟩
  have C0 : Hid (∀ W (Q : List Res), Sep w (Q ++ bA) W → W.cell? ⟨b, 0, none⟩ = some (.int .i64 x.kind) ∧ W.cell? ⟨b, 1, none⟩ = some (.int .i64 x.n) ∧ W.cell? ⟨b, 2, none⟩ = some (.string x.s)) := Lib.hid fun W Q T => by
    rw [hbs] at T
    have i0 := T.box (b := b) (o := .cells #[.int .i64 x.kind, .int .i64 x.n, .string x.s] 29) (Q.length + 1) (by rw [List.getElem?_append_right (by omega), Nat.add_sub_cancel_left]; rfl)
    exact ⟨cellAt i0 0 rfl, cellAt i0 1 rfl, cellAt i0 2 rfl⟩
  clear hbs
  replace S := Lib.hid S
  go_enter Tryz.func34, Tryz.ntmps34
  go_upto_region 1 with fail
  try simp only [World.size_alloc, hb]
  clear hb
  refine regionL (E := [boxR (b + 1 + 1 + 1) (.cells #[.string ⟨#[]⟩, .int .i64 0, .int .i64 0, .string ⟨#[]⟩, .bool false] 38), boxR (b + 1 + 1) (.cells #[.int .i64 0, .int .i64 0, .string ⟨#[]⟩] 29)]) (base := bA) S.out ?_
  clear S
  refine quietL (hy := fun E Wx hSw => by (go_simp; exact ⟨rfl, hSw⟩)) (h := ?_)
  simp only [Act.put, List.setIfInBounds_toArray, List.set_cons_zero, List.set_cons_succ]
  refine quietL (hy := fun E Wx hSw => by ((obtain ⟨u0, u1, u2⟩ := C0.out _ _ hSw); go_simp; exact ⟨rfl, hSw⟩)) (h := ?_)
  simp only [Act.put, List.setIfInBounds_toArray, List.set_cons_zero, List.set_cons_succ]
  refine quietL (hy := fun E Wx hSw => by (go_simp; exact ⟨rfl, hSw⟩)) (h := ?_)
  simp only [Act.put, List.setIfInBounds_toArray, List.set_cons_zero, List.set_cons_succ]
  refine quietL (hy := fun E Wx hSw => by (go_simp; exact ⟨rfl, hSw⟩)) (h := ?_)
  simp only [Act.put, List.setIfInBounds_toArray, List.set_cons_zero, List.set_cons_succ]
  refine skipL ?_
  simp only [Act.put, List.setIfInBounds_toArray, List.set_cons_zero, List.set_cons_succ]
  refine skipL ?_
  simp only [Act.put, List.setIfInBounds_toArray, List.set_cons_zero, List.set_cons_succ]
  refine skipL ?_
  simp only [Act.put, List.setIfInBounds_toArray, List.set_cons_zero, List.set_cons_succ]
  refine quietL (hy := fun E Wx hSw => by (go_simp; exact ⟨rfl, hSw⟩)) (h := ?_)
  simp only [Act.put, List.setIfInBounds_toArray, List.set_cons_zero, List.set_cons_succ]
  refine quietL (hy := fun E Wx hSw => by (go_simp; exact ⟨rfl, hSw⟩)) (h := ?_)
  simp only [Act.put, List.setIfInBounds_toArray, List.set_cons_zero, List.set_cons_succ]
  intro w1 S
  replace S := Lib.hid S
  have KR : Hid (∀ W (Q : List Res), Sep w (Q ++ bA) W → Calls Tryz.prog 72 #[.pointer (some ⟨h, 0, none⟩), .agg #[.int .i64 x.kind, .int .i64 x.n, .string x.s]] W fun e W' => e = .returned (.bool true) ∧ Sep w (Q ++ bA) W') := Lib.hid fun W Q T => by
    rw [HBS.out] at T ⊢
    exact row_ok T (Q.length + 2 + i) (by rw [List.getElem?_append_right (by omega), show Q.length + 2 + i - Q.length = i + 2 by omega]; simpa using hi) x _ HR.out
  go_upto_region 3 with fail
  refine regionL (E := [boxR (b + 1 + 1 + 1) (.cells #[.string ⟨#[]⟩, .int .i64 0, .int .i64 0, .string ⟨#[]⟩, .bool false] 38), boxR (b + 1 + 1) (.cells #[.int .i64 0, .int .i64 0, .string ⟨#[]⟩] 29)]) (base := bA) S.out ?_
  clear S
  refine quietL (hy := fun E Wx hSw => by (go_simp; exact ⟨rfl, hSw⟩)) (h := ?_)
  simp only [Act.put, List.setIfInBounds_toArray, List.set_cons_zero, List.set_cons_succ]
  refine quietL (hy := fun E Wx hSw => by ((obtain ⟨u0, u1, u2⟩ := C0.out _ _ hSw); go_simp; exact ⟨rfl, hSw⟩)) (h := ?_)
  simp only [Act.put, List.setIfInBounds_toArray, List.set_cons_zero, List.set_cons_succ]
  refine quietL (hy := fun E Wx hSw => by (go_simp; exact symCall (KR.out _ _ hSw))) (h := ?_)
  simp only [Act.put, List.setIfInBounds_toArray, List.set_cons_zero, List.set_cons_succ]
  refine quietL (hy := fun E Wx hSw => by (go_simp; exact ⟨rfl, hSw⟩)) (h := ?_)
  simp only [Act.put, List.setIfInBounds_toArray, List.set_cons_zero, List.set_cons_succ]
  refine quietL (hy := fun E Wx hSw => by (go_simp; exact ⟨rfl, hSw⟩)) (h := ?_)
  simp only [Act.put, List.setIfInBounds_toArray, List.set_cons_zero, List.set_cons_succ]
  refine quietL (hy := fun E Wx hSw => by ((obtain ⟨u0, u1, u2⟩ := C1.out _ _ hSw); go_simp; exact ⟨rfl, hSw⟩)) (h := ?_)
  simp only [Act.put, List.setIfInBounds_toArray, List.set_cons_zero, List.set_cons_succ]
  refine quietL (hy := fun E Wx hSw => by (go_simp; exact ⟨rfl, hSw⟩)) (h := ?_)
  simp only [Act.put, List.setIfInBounds_toArray, List.set_cons_zero, List.set_cons_succ]
  refine quietL (hy := fun E Wx hSw => by (go_simp; exact ⟨rfl, hSw⟩)) (h := ?_)
  simp only [Act.put, List.setIfInBounds_toArray, List.set_cons_zero, List.set_cons_succ]
  refine quietL (hy := fun E Wx hSw => by (go_simp; exact ⟨rfl, hSw⟩)) (h := ?_)
  simp only [Act.put, List.setIfInBounds_toArray, List.set_cons_zero, List.set_cons_succ]
  intro w2 S
  replace S := Lib.hid S
  have KK : Hid (∀ W (Q : List Res), Sep w (Q ++ bA) W → Calls Tryz.prog 30 #[.pointer (some ⟨h, 0, none⟩), .agg #[.int .i64 x.kind, .int .i64 x.n, .string x.s]] W fun e W' => e = .returned (.int .i64 kx) ∧ Sep w (Q ++ bA) W') := Lib.hid fun W Q T => by
    rw [HBS.out] at T ⊢
    exact kind_at T (Q.length + 2 + i) (by rw [List.getElem?_append_right (by omega), show Q.length + 2 + i - Q.length = i + 2 by omega]; simpa using hi) x kx HK.out
  go_upto_region 9 with fail
  refine regionL (E := [boxR (b + 1 + 1 + 1) (.cells #[.string ⟨#[]⟩, .int .i64 0, .int .i64 0, .string ⟨#[]⟩, .bool false] 38), boxR (b + 1 + 1) (.cells #[.int .i64 0, .int .i64 0, .string ⟨#[]⟩] 29)]) (base := bA) S.out ?_
  clear S
  refine quietL (hy := fun E Wx hSw => by (go_simp; exact ⟨rfl, hSw⟩)) (h := ?_)
  simp only [Act.put, List.setIfInBounds_toArray, List.set_cons_zero, List.set_cons_succ]
  refine quietL (hy := fun E Wx hSw => by ((obtain ⟨u0, u1, u2⟩ := C0.out _ _ hSw); go_simp; exact ⟨rfl, hSw⟩)) (h := ?_)
  simp only [Act.put, List.setIfInBounds_toArray, List.set_cons_zero, List.set_cons_succ]
  refine quietL (hy := fun E Wx hSw => by (go_simp; exact symCall (KK.out _ _ hSw))) (h := ?_)
  simp only [Act.put, List.setIfInBounds_toArray, List.set_cons_zero, List.set_cons_succ]
  refine quietL (hy := fun E Wx hSw => by (go_simp; exact ⟨rfl, hSw⟩)) (h := ?_)
  simp only [Act.put, List.setIfInBounds_toArray, List.set_cons_zero, List.set_cons_succ]
  refine quietL (hy := fun E Wx hSw => by (go_simp; exact ⟨rfl, hSw⟩)) (h := ?_)
  simp only [Act.put, List.setIfInBounds_toArray, List.set_cons_zero, List.set_cons_succ]
  refine skipL ?_
  simp only [Act.put, List.setIfInBounds_toArray, List.set_cons_zero, List.set_cons_succ]
  refine skipL ?_
  simp only [Act.put, List.setIfInBounds_toArray, List.set_cons_zero, List.set_cons_succ]
  refine quietL (hy := fun E Wx hSw => by (go_simp; exact ⟨rfl, hSw⟩)) (h := ?_)
  simp only [Act.put, List.setIfInBounds_toArray, List.set_cons_zero, List.set_cons_succ]
  refine quietL (hy := fun E Wx hSw => by (go_simp; exact ⟨rfl, hSw⟩)) (h := ?_)
  simp only [Act.put, List.setIfInBounds_toArray, List.set_cons_zero, List.set_cons_succ]
  intro w3 S
  replace S := Lib.hid S
  have KW : Hid (∀ W (Q : List Res), Sep w (Q ++ bA) W → Calls Tryz.prog 48 #[] W fun e W' => e = .returned (.tuple #[zeroV, excN typeError]) ∧ Sep w (Q ++ bA) W') := Lib.hid fun W Q T => by
    exact wrong_ok T
  go_upto_region 14 with fail
  refine regionL (E := [boxR (b + 1 + 1 + 1) (.cells #[.string ⟨#[]⟩, .int .i64 0, .int .i64 0, .string ⟨#[]⟩, .bool false] 38), boxR (b + 1 + 1) (.cells #[.int .i64 0, .int .i64 0, .string ⟨#[]⟩] 29)]) (base := bA) S.out ?_
  clear S
  refine quietL (hy := fun E Wx hSw => by (go_simp; exact symCall (KW.out _ _ hSw))) (h := ?_)
  simp only [Act.put, List.setIfInBounds_toArray, List.set_cons_zero, List.set_cons_succ]
  refine quietL (hy := fun E Wx hSw => by (go_simp; exact ⟨rfl, hSw⟩)) (h := ?_)
  simp only [Act.put, List.setIfInBounds_toArray, List.set_cons_zero, List.set_cons_succ]
  refine quietL (hy := fun E Wx hSw => by (go_simp; exact ⟨rfl, hSw⟩)) (h := ?_)
  simp only [Act.put, List.setIfInBounds_toArray, List.set_cons_zero, List.set_cons_succ]
  refine detL undef [boxR (b + 1 + 1 + 1) (.cells #[.string ⟨#[]⟩, .int .i64 0, .int .i64 0, .string ⟨#[]⟩, .bool false] 38), boxR (b + 1 + 1) (.cells #[.int .i64 0, .int .i64 0, .string ⟨#[]⟩] 29)] (h1 := fun Wx hSw => by (have hz := hSw.box (b := (b + 1 + 1)) (o := .cells #[.int .i64 0, .int .i64 0, .string ⟨#[]⟩] 29) 1 rfl; have z0 := cellAt hz 0 (v := .int .i64 0) rfl; have y0 := frozenAt hz 0; have z1 := cellAt hz 1 (v := .int .i64 0) rfl; have y1 := frozenAt hz 1; have z2 := cellAt hz 2 (v := .string ⟨#[]⟩) rfl; have y2 := frozenAt hz 2; go_simp; exact ⟨rfl, (Sep.setBox (cs := #[.int .i64 0, .int .i64 0, .string ⟨#[]⟩]) (t := 29) (Sep.setBox (cs := #[.int .i64 0, .int .i64 0, .string ⟨#[]⟩]) (t := 29) (Sep.setBox (cs := #[.int .i64 0, .int .i64 0, .string ⟨#[]⟩]) (t := 29) hSw 1 rfl 0 (.int .i64 0)) 1 rfl 1 (.int .i64 0)) 1 rfl 2 (.string ⟨#[]⟩))⟩)) (h2 := ?_)
  simp only [Act.put, List.setIfInBounds_toArray, List.set_cons_zero, List.set_cons_succ]
  refine detL undef [boxR (b + 1 + 1 + 1) (.cells #[.string typeError, .int .i64 0, .int .i64 0, .string ⟨#[]⟩, .bool false] 38), boxR (b + 1 + 1) (.cells #[.int .i64 0, .int .i64 0, .string ⟨#[]⟩] 29)] (h1 := fun Wx hSw => by (have hz := hSw.box (b := (b + 1 + 1 + 1)) (o := .cells #[.string ⟨#[]⟩, .int .i64 0, .int .i64 0, .string ⟨#[]⟩, .bool false] 38) 0 rfl; have z0 := cellAt hz 0 (v := .string ⟨#[]⟩) rfl; have y0 := frozenAt hz 0; have z1 := cellAt hz 1 (v := .int .i64 0) rfl; have y1 := frozenAt hz 1; have z2 := cellAt hz 2 (v := .int .i64 0) rfl; have y2 := frozenAt hz 2; have z3 := cellAt hz 3 (v := .string ⟨#[]⟩) rfl; have y3 := frozenAt hz 3; have z4 := cellAt hz 4 (v := .bool false) rfl; have y4 := frozenAt hz 4; go_simp; exact ⟨rfl, (Sep.setBox (cs := #[.string typeError, .int .i64 0, .int .i64 0, .string ⟨#[]⟩, .bool false]) (t := 38) (Sep.setBox (cs := #[.string typeError, .int .i64 0, .int .i64 0, .string ⟨#[]⟩, .bool false]) (t := 38) (Sep.setBox (cs := #[.string typeError, .int .i64 0, .int .i64 0, .string ⟨#[]⟩, .bool false]) (t := 38) (Sep.setBox (cs := #[.string typeError, .int .i64 0, .int .i64 0, .string ⟨#[]⟩, .bool false]) (t := 38) (Sep.setBox (cs := #[.string ⟨#[]⟩, .int .i64 0, .int .i64 0, .string ⟨#[]⟩, .bool false]) (t := 38) hSw 0 rfl 0 (.string typeError)) 0 rfl 1 (.int .i64 0)) 0 rfl 2 (.int .i64 0)) 0 rfl 3 (.string ⟨#[]⟩)) 0 rfl 4 (.bool false))⟩)) (h2 := ?_)
  simp only [Act.put, List.setIfInBounds_toArray, List.set_cons_zero, List.set_cons_succ]
  intro w4 S
  replace S := Lib.hid S
  replace S := S.out
  have r0 := cellAt (S.box (b := b + 1 + 1) 1 rfl) 0 (v := .int .i64 0) rfl
  have r1 := cellAt (S.box (b := b + 1 + 1) 1 rfl) 1 (v := .int .i64 0) rfl
  have r2 := cellAt (S.box (b := b + 1 + 1) 1 rfl) 2 (v := .string ⟨#[]⟩) rfl
  have r3 := cellAt (S.box (b := b + 1 + 1 + 1) 0 rfl) 0 (v := .string typeError) rfl
  have r4 := cellAt (S.box (b := b + 1 + 1 + 1) 0 rfl) 1 (v := .int .i64 0) rfl
  have r5 := cellAt (S.box (b := b + 1 + 1 + 1) 0 rfl) 2 (v := .int .i64 0) rfl
  have r6 := cellAt (S.box (b := b + 1 + 1 + 1) 0 rfl) 3 (v := .string ⟨#[]⟩) rfl
  have r7 := cellAt (S.box (b := b + 1 + 1 + 1) 0 rfl) 4 (v := .bool false) rfl
  replace S := Lib.hid S
  go_wp2
  refine bodyPost_ret (v := .tuple #[zeroV, excN typeError]) (by simp [results, Tryz.results34, go_sem, r0, r1, r2, r3, r4, r5, r6, r7]) rfl ⟨rfl, ?_⟩
  replace S := S.out
  rw [HBS.out] at S
  exact S.tail.tail.tail.tail
end
end Go.Proofs.YtellmfimmghidaaGreat
