/- ch 16: str, lost, Index. -/
import Derived.Test.YtellmfimmghidaaGreatOprH
namespace Go.Proofs.YtellmfimmghidaaGreat
set_option linter.unusedSimpArgs false
open Go.RowKit
set_option linter.unusedVariables false
section
variable {w W : World} {Rs : List Res} {h : Nat} {H : HeapM}
theorem okI_place {n : Nat} {i : Int} (hn : n ≤ 9000000) (hi : okI i) : okI (placeP n i) := by
  have hb := okI_range hi
  unfold placeP
  split
  · exact okI_of (by omega)
  · exact hi
theorem idx_at (S : Sep w Rs W) (i : Nat) (hi : Rs[i]? = some (heapR h H)) (v x : V) (j : Int) (hj : okI j) (hx : H.at v j = some x) : Calls Tryz.prog 74 #[.pointer (some ⟨h, 0, none⟩), .agg #[.int .i64 v.kind, .int .i64 v.n, .string v.s], .int .i64 j] W fun e W' => e = .returned (.tuple #[.agg #[.int .i64 x.kind, .int .i64 x.n, .string x.s], .bool true]) ∧ Sep w Rs W' := by
  have hh := S.at_ i hi v j hj
  rw [hx] at hh
  exact hh.mono fun e W' ⟨e1, e2, _⟩ => ⟨e1, e2⟩
set_option maxRecDepth 100000 in
set_option maxHeartbeats 12800000 in
theorem idx_row (S : Sep w Rs W) (i : Nat) (hi : Rs[i]? = some (heapR h H)) {N : Nat} (G : H.Good N) (hN : N ≤ 4000000) (x y v : V) (hx : H.rowB x = true) (hy : y.kind = 2) (hp : inP (H.items x).length y.n = true) (hv : H.at x (placeP (H.items x).length y.n) = some v) : Calls Tryz.prog 34 #[.pointer (some ⟨h, 0, none⟩), .agg #[.int .i64 x.kind, .int .i64 x.n, .string x.s], .agg #[.int .i64 y.kind, .int .i64 y.n, .string y.s]] W fun e W' => e = .returned (.tuple #[.agg #[.int .i64 v.kind, .int .i64 v.n, .string v.s], excZ]) ∧ Sep w Rs W' := by
  have hkx := HeapM.rowB_kind hx
  have hx4 : (x.kind == 3) = false := by have := H.kind_ref x (by omega); simp [this]
  have hy2 : (y.kind == 2) = true := by simp [hy]
  obtain ⟨X1, hX1⟩ : ∃ l, l = H.items x := ⟨_, rfl⟩
  have hgx : X1.length ≤ N := by rw [hX1]; exact G.items x
  have HX := Lib.hid hX1
  have HR := Lib.hid hx
  have HY2 := Lib.hid hy2
  rw [← hX1] at hp
  have HPL := Lib.hid hp
  have HV := Lib.hid hv
  clear hkx hx hX1 hy hp hv hy2
  obtain ⟨b, hb⟩ : ∃ gx_, (W.heap.size) = gx_ := ⟨_, rfl⟩
  replace S := ((((S.alloc (.cells #[.int .i64 x.kind, .int .i64 x.n, .string x.s] 29)).alloc (.cells #[.int .i64 y.kind, .int .i64 y.n, .string y.s] 29)).alloc (.cells #[.int .i64 0, .int .i64 0, .string ⟨#[]⟩] 29)).alloc (.cells #[.string ⟨#[]⟩, .int .i64 0, .int .i64 0, .string ⟨#[]⟩, .bool false] 38))
  simp only [World.size_alloc, hb] at S
  replace S : Sep w (boxE (b + 1 + 1 + 1) :: boxZ (b + 1 + 1) :: boxV (b + 1) y :: boxV b x :: Rs) ((((W.alloc (.cells #[.int .i64 x.kind, .int .i64 x.n, .string x.s] 29)).alloc (.cells #[.int .i64 y.kind, .int .i64 y.n, .string y.s] 29)).alloc (.cells #[.int .i64 0, .int .i64 0, .string ⟨#[]⟩] 29)).alloc (.cells #[.string ⟨#[]⟩, .int .i64 0, .int .i64 0, .string ⟨#[]⟩, .bool false] 38)) := S
  obtain ⟨bA, hbs⟩ : ∃ l, l = boxV (b + 1) y :: boxV b x :: Rs := ⟨_, rfl⟩
  have HBS := Lib.hid hbs
  replace S : Sep w ([boxE (b + 1 + 1 + 1), boxZ (b + 1 + 1)] ++ bA) ((((W.alloc (.cells #[.int .i64 x.kind, .int .i64 x.n, .string x.s] 29)).alloc (.cells #[.int .i64 y.kind, .int .i64 y.n, .string y.s] 29)).alloc (.cells #[.int .i64 0, .int .i64 0, .string ⟨#[]⟩] 29)).alloc (.cells #[.string ⟨#[]⟩, .int .i64 0, .int .i64 0, .string ⟨#[]⟩, .bool false] 38)) := by
    rw [hbs]
    refine (show Sep w ([boxE (b + 1 + 1 + 1), boxZ (b + 1 + 1), boxV (b + 1) y, boxV b x] ++ Rs) _ from S).perm ?_
    exact (show ([boxE (b + 1 + 1 + 1), boxZ (b + 1 + 1), boxV (b + 1) y, boxV b x] ++ Rs).Perm ([boxE (b + 1 + 1 + 1), boxZ (b + 1 + 1)] ++ ([boxV (b + 1) y, boxV b x] ++ Rs)) from by rw [← List.append_assoc]; exact List.Perm.append_right Rs (by exact perm_of [0, 1, 2, 3] (by show (List.range' 0 4).Perm [0, 1, 2, 3]; decide) (by rfl)))
  have C1 : Hid (∀ W (Q : List Res), Sep w (Q ++ bA) W → W.cell? ⟨b + 1, 0, none⟩ = some (.int .i64 y.kind) ∧ W.cell? ⟨b + 1, 1, none⟩ = some (.int .i64 y.n) ∧ W.cell? ⟨b + 1, 2, none⟩ = some (.string y.s)) := Lib.hid fun W Q T => by
    rw [hbs] at T
    have i0 := T.box (b := b + 1) (o := objV y) (Q.length + 0) (by rw [List.getElem?_append_right (by omega), Nat.add_sub_cancel_left]; rfl)
    exact ⟨cellAt i0 0 rfl, cellAt i0 1 rfl, cellAt i0 2 rfl⟩
  have C0 : Hid (∀ W (Q : List Res), Sep w (Q ++ bA) W → W.cell? ⟨b, 0, none⟩ = some (.int .i64 x.kind) ∧ W.cell? ⟨b, 1, none⟩ = some (.int .i64 x.n) ∧ W.cell? ⟨b, 2, none⟩ = some (.string x.s)) := Lib.hid fun W Q T => by
    rw [hbs] at T
    have i0 := T.box (b := b) (o := objV x) (Q.length + 1) (by rw [List.getElem?_append_right (by omega), Nat.add_sub_cancel_left]; rfl)
    exact ⟨cellAt i0 0 rfl, cellAt i0 1 rfl, cellAt i0 2 rfl⟩
  clear hbs
  replace S := Lib.hid S
  go_enter Tryz.func34, Tryz.ntmps34
  go_upto_region 1 with fail
  try simp only [World.size_alloc, hb]
  clear hb
  have KR : Hid True := Lib.hid trivial
  have KR : Hid (∀ W (Q : List Res), Sep w (Q ++ bA) W → Calls Tryz.prog 72 #[.pointer (some ⟨h, 0, none⟩), .agg #[.int .i64 x.kind, .int .i64 x.n, .string x.s]] W fun e W' => e = .returned (.bool true) ∧ Sep w (Q ++ bA) W') := Lib.hid fun W Q T => by
    rw [HBS.out] at T ⊢
    exact row_ok T (Q.length + 2 + i) (by rw [List.getElem?_append_right (by omega), show Q.length + 2 + i - Q.length = i + 2 by omega]; simpa using hi) x true HR.out
  have KL : Hid (∀ W (Q : List Res), Sep w (Q ++ bA) W → Calls Tryz.prog 24 #[.pointer (some ⟨h, 0, none⟩), .agg #[.int .i64 x.kind, .int .i64 x.n, .string x.s]] W fun e W' => e = .returned (.int .i64 X1.length) ∧ Sep w (Q ++ bA) W') := Lib.hid fun W Q T => by
    rw [HBS.out] at T ⊢
    exact len_at T (Q.length + 2 + i) (by rw [List.getElem?_append_right (by omega), show Q.length + 2 + i - Q.length = i + 2 by omega]; simpa using hi) x X1.length (by rw [HX.out])
  have KP : Hid (∀ W (Q : List Res), Sep w (Q ++ bA) W → Calls Tryz.prog 73 #[.int .i64 X1.length, .int .i64 y.n] W fun e W' => e = .returned (.tuple #[.int .i64 (placeP X1.length y.n), .bool true]) ∧ Sep w (Q ++ bA) W') := Lib.hid fun W Q T => by
    have hh := place_ok W X1.length y.n (by omega) y.hn
    rw [HPL.out] at hh
    exact hh.mono fun e W' ⟨e1, e2⟩ => ⟨e1, by rw [e2]; exact T⟩
  refine regionL (E := [boxE (b + 1 + 1 + 1), boxZ (b + 1 + 1)]) (base := bA) S.out ?_
  clear S
  refine quietL ?_
  simp only [pu]
  refine quietL (hy := fun E Wx hSw => by ((refine and3 (C0.out _ _ hSw) fun u0 u1 u2 => ?_); go_simp; exact ⟨rfl, hSw⟩)) (h := ?_)
  simp only [pu]
  iterate 2 (refine quietL ?_; simp only [pu])
  iterate 3 (refine skipL ?_; simp only [pu])
  iterate 2 (refine quietL ?_; simp only [pu])
  intro w1 S
  replace S := Lib.hid S
  have hy2 := HY2.out
  go_upto_region 3 with fail
  refine regionL (E := [boxE (b + 1 + 1 + 1), boxZ (b + 1 + 1)]) (base := bA) S.out ?_
  clear S
  refine quietL ?_
  simp only [pu]
  refine quietL (hy := fun E Wx hSw => by ((refine and3 (C0.out _ _ hSw) fun u0 u1 u2 => ?_); go_simp; exact ⟨rfl, hSw⟩)) (h := ?_)
  simp only [pu]
  refine quietL (hy := fun E Wx hSw => by (go_simp; exact symCall (KR.out _ _ hSw))) (h := ?_)
  simp only [pu]
  iterate 2 (refine quietL ?_; simp only [pu])
  refine quietL (hy := fun E Wx hSw => by ((refine and3 (C1.out _ _ hSw) fun u0 u1 u2 => ?_); go_simp; exact ⟨rfl, hSw⟩)) (h := ?_)
  simp only [pu]
  iterate 3 (refine quietL ?_; simp only [pu])
  intro w2 S
  replace S := Lib.hid S
  go_upto_region 4 with fail
  refine regionP 11 0 (E := [boxE (b + 1 + 1 + 1), boxZ (b + 1 + 1)]) (base := bA) S.out ?_
  clear S
  refine quietP ?_
  simp only [pu]
  refine quietP (hy := fun E Wx hSw => by ((refine and3 (C0.out _ _ hSw) fun u0 u1 u2 => ?_); go_simp; exact ⟨rfl, hSw⟩)) (h := ?_)
  simp only [pu]
  refine quietP (hy := fun E Wx hSw => by (go_simp; exact symCall (KL.out _ _ hSw))) (h := ?_)
  simp only [pu]
  refine quietP ?_
  simp only [pu]
  refine quietP (hy := fun E Wx hSw => by ((refine and3 (C1.out _ _ hSw) fun u0 u1 u2 => ?_); go_simp; exact ⟨rfl, hSw⟩)) (h := ?_)
  simp only [pu]
  refine quietP (hy := fun E Wx hSw => by (go_simp; exact symCall (KP.out _ _ hSw))) (h := ?_)
  simp only [pu]
  iterate 5 (refine quietP ?_; simp only [pu])
  refine endP ?_
  refine doneS (h := fun w3 S => ?_)
  replace S := Lib.hid S
  have KA : Hid (∀ W (Q : List Res), Sep w (Q ++ bA) W → Calls Tryz.prog 74 #[.pointer (some ⟨h, 0, none⟩), .agg #[.int .i64 x.kind, .int .i64 x.n, .string x.s], .int .i64 (placeP X1.length y.n)] W fun e W' => e = .returned (.tuple #[.agg #[.int .i64 v.kind, .int .i64 v.n, .string v.s], .bool true]) ∧ Sep w (Q ++ bA) W') := Lib.hid fun W Q T => by
    rw [HBS.out] at T ⊢
    exact (idx_at T (Q.length + 2 + i) (by rw [List.getElem?_append_right (by omega), show Q.length + 2 + i - Q.length = i + 2 by omega]; simpa using hi) x v _ (okI_place (by omega) y.hn) (by rw [HX.out] at *; exact HV.out))
  go_upto_region 7 with fail
  refine regionL (E := [emptyR, boxE (b + 1 + 1 + 1), boxZ (b + 1 + 1)]) (base := bA) (Sep.putE S.out) ?_
  clear S
  refine quietL ?_
  simp only [pu]
  refine quietL (hy := fun E Wx hSw => by ((refine and3 (C0.out _ _ hSw) fun u0 u1 u2 => ?_); go_simp; exact ⟨rfl, hSw⟩)) (h := ?_)
  simp only [pu]
  refine quietL ?_
  simp only [pu]
  refine quietL (hy := fun E Wx hSw => by (go_simp; exact symCall (KA.out _ _ hSw))) (h := ?_)
  simp only [pu]
  iterate 3 (refine quietL ?_; simp only [pu])
  refine allocL 0 rfl (fun q => .pointer (some ⟨q, 0, none⟩)) (.cells #[.int .i64 0, .int .i64 0, .string ⟨#[]⟩] 29) (h1 := fun Wx => by go_simp) (h2 := fun qL1 => ?_)
  simp only [pu]
  try simp only [List.set_cons_zero, List.set_cons_succ]
  refine detL undef [boxV qL1 v, boxE (b + 1 + 1 + 1), boxZ (b + 1 + 1)] (h1 := fun Wx hSw => by (have hz := hSw.box (b := qL1) (o := objZ) 0 rfl; refine useZ3 hz fun z0 z1 z2 y0 y1 y2 => ?_; go_simp; exact ⟨rfl, hSw.set3 0 rfl (.int .i64 v.kind) (.int .i64 v.n) (.string v.s)⟩)) (h2 := ?_)
  simp only [pu]
  refine quietL ?_
  simp only [pu]
  intro w4 S
  replace S := Lib.hid S
  go_upto_region 8 with fail
  refine regionL (E := [boxV qL1 v, boxE (b + 1 + 1 + 1), boxZ (b + 1 + 1)]) (base := bA) S.out ?_
  clear S
  refine detL _ [boxV qL1 v, boxE (b + 1 + 1 + 1), boxZ (b + 1 + 1)] (h1 := fun Wx hSw => by (have hz := hSw.box (b := qL1) (o := objV v) 0 rfl; have z0 := cellAt hz 0 (v := .int .i64 v.kind) rfl; have z1 := cellAt hz 1 (v := .int .i64 v.n) rfl; have z2 := cellAt hz 2 (v := .string v.s) rfl; go_simp; exact ⟨rfl, hSw⟩)) (h2 := ?_)
  simp only [pu]
  refine quietL ?_
  simp only [pu]
  refine detL undef [boxV qL1 v, boxE (b + 1 + 1 + 1), boxV (b + 1 + 1) v] (h1 := fun Wx hSw => by (have hz := hSw.box (b := (b + 1 + 1)) (o := objZ) 2 rfl; refine useZ3 hz fun z0 z1 z2 y0 y1 y2 => ?_; go_simp; exact ⟨rfl, hSw.set3 2 rfl (.int .i64 v.kind) (.int .i64 v.n) (.string v.s)⟩)) (h2 := ?_)
  simp only [pu]
  refine detL undef [boxV qL1 v, boxE (b + 1 + 1 + 1), boxV (b + 1 + 1) v] (h1 := fun Wx hSw => by (have hz := hSw.box (b := (b + 1 + 1 + 1)) (o := objE) 1 rfl; refine useZ5 hz fun z0 z1 z2 z3 z4 y0 y1 y2 y3 y4 => ?_; go_simp; exact ⟨rfl, hSw.set5 1 rfl (.string ⟨#[]⟩) (.int .i64 0) (.int .i64 0) (.string ⟨#[]⟩) (.bool false)⟩)) (h2 := ?_)
  simp only [pu]
  intro w5 S
  replace S := Lib.hid S
  replace S := S.out
  refine useR3 (S.box (b := b + 1 + 1) (o := objV v) 2 rfl) fun r0 r1 r2 => ?_
  refine useR5 (S.box (b := b + 1 + 1 + 1) (o := objE) 1 rfl) fun r3 r4 r5 r6 r7 => ?_
  replace S := Lib.hid S
  go_wp2
  refine bodyPost_ret (v := .tuple #[.agg #[.int .i64 v.kind, .int .i64 v.n, .string v.s], excZ]) (by simp [results, Tryz.results34, go_sem, r0, r1, r2, r3, r4, r5, r6, r7]) rfl ⟨rfl, ?_⟩
  replace S := S.out
  rw [HBS.out] at S
  exact S.tail.tail.tail.tail.tail
set_option maxRecDepth 100000 in
set_option maxHeartbeats 12800000 in
theorem idx_row_no (S : Sep w Rs W) (i : Nat) (hi : Rs[i]? = some (heapR h H)) {N : Nat} (G : H.Good N) (hN : N ≤ 4000000) (x y : V) (hx : H.rowB x = true) (hy : y.kind = 2) (hp : inP (H.items x).length y.n = false) : Calls Tryz.prog 34 #[.pointer (some ⟨h, 0, none⟩), .agg #[.int .i64 x.kind, .int .i64 x.n, .string x.s], .agg #[.int .i64 y.kind, .int .i64 y.n, .string y.s]] W fun e W' => e = .returned (.tuple #[zeroV, excN indexError]) ∧ Sep w Rs W' := by
  have hkx := HeapM.rowB_kind hx
  have hx4 : (x.kind == 3) = false := by have := H.kind_ref x (by omega); simp [this]
  have hy2 : (y.kind == 2) = true := by simp [hy]
  obtain ⟨X1, hX1⟩ : ∃ l, l = H.items x := ⟨_, rfl⟩
  have hgx : X1.length ≤ N := by rw [hX1]; exact G.items x
  have HX := Lib.hid hX1
  have HR := Lib.hid hx
  have HY2 := Lib.hid hy2
  rw [← hX1] at hp
  have HPL := Lib.hid hp
  clear hkx hx hX1 hy hp hy2
  obtain ⟨b, hb⟩ : ∃ gx_, (W.heap.size) = gx_ := ⟨_, rfl⟩
  replace S := ((((S.alloc (.cells #[.int .i64 x.kind, .int .i64 x.n, .string x.s] 29)).alloc (.cells #[.int .i64 y.kind, .int .i64 y.n, .string y.s] 29)).alloc (.cells #[.int .i64 0, .int .i64 0, .string ⟨#[]⟩] 29)).alloc (.cells #[.string ⟨#[]⟩, .int .i64 0, .int .i64 0, .string ⟨#[]⟩, .bool false] 38))
  simp only [World.size_alloc, hb] at S
  replace S : Sep w (boxE (b + 1 + 1 + 1) :: boxZ (b + 1 + 1) :: boxV (b + 1) y :: boxV b x :: Rs) ((((W.alloc (.cells #[.int .i64 x.kind, .int .i64 x.n, .string x.s] 29)).alloc (.cells #[.int .i64 y.kind, .int .i64 y.n, .string y.s] 29)).alloc (.cells #[.int .i64 0, .int .i64 0, .string ⟨#[]⟩] 29)).alloc (.cells #[.string ⟨#[]⟩, .int .i64 0, .int .i64 0, .string ⟨#[]⟩, .bool false] 38)) := S
  obtain ⟨bA, hbs⟩ : ∃ l, l = boxV (b + 1) y :: boxV b x :: Rs := ⟨_, rfl⟩
  have HBS := Lib.hid hbs
  replace S : Sep w ([boxE (b + 1 + 1 + 1), boxZ (b + 1 + 1)] ++ bA) ((((W.alloc (.cells #[.int .i64 x.kind, .int .i64 x.n, .string x.s] 29)).alloc (.cells #[.int .i64 y.kind, .int .i64 y.n, .string y.s] 29)).alloc (.cells #[.int .i64 0, .int .i64 0, .string ⟨#[]⟩] 29)).alloc (.cells #[.string ⟨#[]⟩, .int .i64 0, .int .i64 0, .string ⟨#[]⟩, .bool false] 38)) := by
    rw [hbs]
    refine (show Sep w ([boxE (b + 1 + 1 + 1), boxZ (b + 1 + 1), boxV (b + 1) y, boxV b x] ++ Rs) _ from S).perm ?_
    exact (show ([boxE (b + 1 + 1 + 1), boxZ (b + 1 + 1), boxV (b + 1) y, boxV b x] ++ Rs).Perm ([boxE (b + 1 + 1 + 1), boxZ (b + 1 + 1)] ++ ([boxV (b + 1) y, boxV b x] ++ Rs)) from by rw [← List.append_assoc]; exact List.Perm.append_right Rs (by exact perm_of [0, 1, 2, 3] (by show (List.range' 0 4).Perm [0, 1, 2, 3]; decide) (by rfl)))
  have C1 : Hid (∀ W (Q : List Res), Sep w (Q ++ bA) W → W.cell? ⟨b + 1, 0, none⟩ = some (.int .i64 y.kind) ∧ W.cell? ⟨b + 1, 1, none⟩ = some (.int .i64 y.n) ∧ W.cell? ⟨b + 1, 2, none⟩ = some (.string y.s)) := Lib.hid fun W Q T => by
    rw [hbs] at T
    have i0 := T.box (b := b + 1) (o := objV y) (Q.length + 0) (by rw [List.getElem?_append_right (by omega), Nat.add_sub_cancel_left]; rfl)
    exact ⟨cellAt i0 0 rfl, cellAt i0 1 rfl, cellAt i0 2 rfl⟩
  have C0 : Hid (∀ W (Q : List Res), Sep w (Q ++ bA) W → W.cell? ⟨b, 0, none⟩ = some (.int .i64 x.kind) ∧ W.cell? ⟨b, 1, none⟩ = some (.int .i64 x.n) ∧ W.cell? ⟨b, 2, none⟩ = some (.string x.s)) := Lib.hid fun W Q T => by
    rw [hbs] at T
    have i0 := T.box (b := b) (o := objV x) (Q.length + 1) (by rw [List.getElem?_append_right (by omega), Nat.add_sub_cancel_left]; rfl)
    exact ⟨cellAt i0 0 rfl, cellAt i0 1 rfl, cellAt i0 2 rfl⟩
  clear hbs
  replace S := Lib.hid S
  go_enter Tryz.func34, Tryz.ntmps34
  go_upto_region 1 with fail
  try simp only [World.size_alloc, hb]
  clear hb
  have KR : Hid True := Lib.hid trivial
  have KR : Hid (∀ W (Q : List Res), Sep w (Q ++ bA) W → Calls Tryz.prog 72 #[.pointer (some ⟨h, 0, none⟩), .agg #[.int .i64 x.kind, .int .i64 x.n, .string x.s]] W fun e W' => e = .returned (.bool true) ∧ Sep w (Q ++ bA) W') := Lib.hid fun W Q T => by
    rw [HBS.out] at T ⊢
    exact row_ok T (Q.length + 2 + i) (by rw [List.getElem?_append_right (by omega), show Q.length + 2 + i - Q.length = i + 2 by omega]; simpa using hi) x true HR.out
  have KL : Hid (∀ W (Q : List Res), Sep w (Q ++ bA) W → Calls Tryz.prog 24 #[.pointer (some ⟨h, 0, none⟩), .agg #[.int .i64 x.kind, .int .i64 x.n, .string x.s]] W fun e W' => e = .returned (.int .i64 X1.length) ∧ Sep w (Q ++ bA) W') := Lib.hid fun W Q T => by
    rw [HBS.out] at T ⊢
    exact len_at T (Q.length + 2 + i) (by rw [List.getElem?_append_right (by omega), show Q.length + 2 + i - Q.length = i + 2 by omega]; simpa using hi) x X1.length (by rw [HX.out])
  have KP : Hid (∀ W (Q : List Res), Sep w (Q ++ bA) W → Calls Tryz.prog 73 #[.int .i64 X1.length, .int .i64 y.n] W fun e W' => e = .returned (.tuple #[.int .i64 (placeP X1.length y.n), .bool false]) ∧ Sep w (Q ++ bA) W') := Lib.hid fun W Q T => by
    have hh := place_ok W X1.length y.n (by omega) y.hn
    rw [HPL.out] at hh
    exact hh.mono fun e W' ⟨e1, e2⟩ => ⟨e1, by rw [e2]; exact T⟩
  refine regionL (E := [boxE (b + 1 + 1 + 1), boxZ (b + 1 + 1)]) (base := bA) S.out ?_
  clear S
  refine quietL ?_
  simp only [pu]
  refine quietL (hy := fun E Wx hSw => by ((refine and3 (C0.out _ _ hSw) fun u0 u1 u2 => ?_); go_simp; exact ⟨rfl, hSw⟩)) (h := ?_)
  simp only [pu]
  iterate 2 (refine quietL ?_; simp only [pu])
  iterate 3 (refine skipL ?_; simp only [pu])
  iterate 2 (refine quietL ?_; simp only [pu])
  intro w1 S
  replace S := Lib.hid S
  have hy2 := HY2.out
  go_upto_region 3 with fail
  refine regionL (E := [boxE (b + 1 + 1 + 1), boxZ (b + 1 + 1)]) (base := bA) S.out ?_
  clear S
  refine quietL ?_
  simp only [pu]
  refine quietL (hy := fun E Wx hSw => by ((refine and3 (C0.out _ _ hSw) fun u0 u1 u2 => ?_); go_simp; exact ⟨rfl, hSw⟩)) (h := ?_)
  simp only [pu]
  refine quietL (hy := fun E Wx hSw => by (go_simp; exact symCall (KR.out _ _ hSw))) (h := ?_)
  simp only [pu]
  iterate 2 (refine quietL ?_; simp only [pu])
  refine quietL (hy := fun E Wx hSw => by ((refine and3 (C1.out _ _ hSw) fun u0 u1 u2 => ?_); go_simp; exact ⟨rfl, hSw⟩)) (h := ?_)
  simp only [pu]
  iterate 3 (refine quietL ?_; simp only [pu])
  intro w2 S
  replace S := Lib.hid S
  go_upto_region 4 with fail
  refine regionP 11 0 (E := [boxE (b + 1 + 1 + 1), boxZ (b + 1 + 1)]) (base := bA) S.out ?_
  clear S
  refine quietP ?_
  simp only [pu]
  refine quietP (hy := fun E Wx hSw => by ((refine and3 (C0.out _ _ hSw) fun u0 u1 u2 => ?_); go_simp; exact ⟨rfl, hSw⟩)) (h := ?_)
  simp only [pu]
  refine quietP (hy := fun E Wx hSw => by (go_simp; exact symCall (KL.out _ _ hSw))) (h := ?_)
  simp only [pu]
  refine quietP ?_
  simp only [pu]
  refine quietP (hy := fun E Wx hSw => by ((refine and3 (C1.out _ _ hSw) fun u0 u1 u2 => ?_); go_simp; exact ⟨rfl, hSw⟩)) (h := ?_)
  simp only [pu]
  refine quietP (hy := fun E Wx hSw => by (go_simp; exact symCall (KP.out _ _ hSw))) (h := ?_)
  simp only [pu]
  iterate 5 (refine quietP ?_; simp only [pu])
  refine endP ?_
  refine doneS (h := fun w3 S => ?_)
  replace S := Lib.hid S
  have KQ : Hid (∀ W (Q : List Res), Sep w (Q ++ bA) W → Calls Tryz.prog 57 #[.string indexError] W fun e W' => e = .returned (excN indexError) ∧ Sep w (Q ++ bA) W') := Lib.hid fun W Q T => by
    exact (raise_ok W _).mono fun e W' ⟨e1, e2⟩ => ⟨e1, T.later e2⟩
  go_upto_region 6 with fail
  refine regionL (E := [boxE (b + 1 + 1 + 1), boxZ (b + 1 + 1)]) (base := bA) S.out ?_
  clear S
  refine quietL ?_
  simp only [pu]
  refine quietL (hy := fun E Wx hSw => by (go_simp; exact symCall (KQ.out _ _ hSw))) (h := ?_)
  simp only [pu]
  refine detL undef [boxE (b + 1 + 1 + 1), boxZ (b + 1 + 1)] (h1 := fun Wx hSw => by (have hz := hSw.box (b := (b + 1 + 1)) (o := objZ) 1 rfl; refine useZ3 hz fun z0 z1 z2 y0 y1 y2 => ?_; go_simp; exact ⟨rfl, hSw.set3 1 rfl (.int .i64 0) (.int .i64 0) (.string ⟨#[]⟩)⟩)) (h2 := ?_)
  simp only [pu]
  refine detL undef [boxN (b + 1 + 1 + 1) indexError, boxZ (b + 1 + 1)] (h1 := fun Wx hSw => by (have hz := hSw.box (b := (b + 1 + 1 + 1)) (o := objE) 0 rfl; refine useZ5 hz fun z0 z1 z2 z3 z4 y0 y1 y2 y3 y4 => ?_; go_simp; exact ⟨rfl, hSw.set5 0 rfl (.string indexError) (.int .i64 0) (.int .i64 0) (.string ⟨#[]⟩) (.bool false)⟩)) (h2 := ?_)
  simp only [pu]
  intro w4 S
  replace S := Lib.hid S
  replace S := S.out
  refine useR3 (S.box (b := b + 1 + 1) (o := objZ) 1 rfl) fun r0 r1 r2 => ?_
  refine useR5 (S.box (b := b + 1 + 1 + 1) (o := objN indexError) 0 rfl) fun r3 r4 r5 r6 r7 => ?_
  replace S := Lib.hid S
  go_wp2
  refine bodyPost_ret (v := .tuple #[zeroV, excN indexError]) (by simp [results, Tryz.results34, go_sem, r0, r1, r2, r3, r4, r5, r6, r7]) rfl ⟨rfl, ?_⟩
  replace S := S.out
  rw [HBS.out] at S
  exact S.tail.tail.tail.tail
end
end Go.Proofs.YtellmfimmghidaaGreat
