/- ch 16: change, SetIndex, DelIndex. -/
import Derived.Test.YtellmfimmghidaaGreatOprI
namespace Go.Proofs.YtellmfimmghidaaGreat
set_option linter.unusedSimpArgs false
open Go.RowKit
set_option linter.unusedVariables false
theorem seesV_none (W : World) : SeesV W (.slice none 0 0) [] := ⟨none, 0, rfl, Nat.le_refl _, by unfold maxLen; omega, .inl rfl⟩
section
variable {w W : World} {Rs : List Res} {h : Nat} {H : HeapM}
set_option maxRecDepth 100000 in
set_option maxHeartbeats 12800000 in
theorem set_item (S : Sep w Rs W) (i : Nat) (hi : Rs[i]? = some (heapR h H)) {p4 p5 p7 i4 i5 i7 : Nat} (h4 : Rs[i4]? = some (boxR p4 (.cells #[.pointer (some ⟨h, 0, none⟩)] 31))) (x z : V) (h5 : Rs[i5]? = some (boxV p5 x)) (h7 : Rs[i7]? = some (boxV p7 z)) (j : Int) (hj : okI j) : Calls Tryz.prog 81 #[.int .i64 j, .pointer (some ⟨p4, 0, none⟩), .pointer (some ⟨p5, 0, none⟩), .pointer (some ⟨p7, 0, none⟩)] W fun e W' => e = .returned (.tuple #[]) ∧ Sep w (Rs.set i (heapR h (H.setAt x j z))) W' := by
  have d0 := cellAt (S.box (b := p4) (i4) (by simpa using h4)) 0 (v := .pointer (some ⟨h, 0, none⟩)) rfl
  have d1 := cellAt (S.box (b := p5) (i5) (by simpa using h5)) 0 (v := .int .i64 x.kind) rfl
  have d2 := cellAt (S.box (b := p5) (i5) (by simpa using h5)) 1 (v := .int .i64 x.n) rfl
  have d3 := cellAt (S.box (b := p5) (i5) (by simpa using h5)) 2 (v := .string x.s) rfl
  have d4 := cellAt (S.box (b := p7) (i7) (by simpa using h7)) 0 (v := .int .i64 z.kind) rfl
  have d5 := cellAt (S.box (b := p7) (i7) (by simpa using h7)) 1 (v := .int .i64 z.n) rfl
  have d6 := cellAt (S.box (b := p7) (i7) (by simpa using h7)) 2 (v := .string z.s) rfl
  have M := Lib.hid (((S.setAt i hi x j z hj).mono fun e W' hh => hh : Calls Tryz.prog 82 #[.pointer (some ⟨h, 0, none⟩), .agg #[.int .i64 x.kind, .int .i64 x.n, .string x.s], .int .i64 j, .agg #[.int .i64 z.kind, .int .i64 z.n, .string z.s]] W fun e W' => e = .returned (.bool (H.inItems x j)) ∧ Sep w (Rs.set i (heapR h (H.setAt x j z))) W'))
  clear S
  go_enter Tryz.func81, Tryz.ntmps81
  go_wp2_with fail
  refine M.out.mono ?_
  rintro e w1 ⟨rfl, S⟩
  clear M d0 d1 d2 d3 d4 d5 d6
  replace S := Lib.hid S
  go_wp2
  go_returns
  exact ⟨rfl, S.out⟩
set_option maxRecDepth 100000 in
set_option maxHeartbeats 12800000 in
theorem del_item (S : Sep w Rs W) (i : Nat) (hi : Rs[i]? = some (heapR h H)) {N : Nat} (G : H.Good N) (hN : N ≤ 4000000) {p4 p5 i4 i5 : Nat} (h4 : Rs[i4]? = some (boxR p4 (.cells #[.pointer (some ⟨h, 0, none⟩)] 31))) (x : V) (h5 : Rs[i5]? = some (boxV p5 x)) (j : Int) (hj : IntKind.i64.wrap (j + 1) = j + 1) : Calls Tryz.prog 84 #[.int .i64 j, .pointer (some ⟨p4, 0, none⟩), .pointer (some ⟨p5, 0, none⟩)] W fun e W' => e = .returned (.tuple #[]) ∧ Sep w (Rs.set i (heapR h (H.replace x j (j + 1) []))) W' := by
  have d0 := cellAt (S.box (b := p4) (i4) (by simpa using h4)) 0 (v := .pointer (some ⟨h, 0, none⟩)) rfl
  have d1 := cellAt (S.box (b := p5) (i5) (by simpa using h5)) 0 (v := .int .i64 x.kind) rfl
  have d2 := cellAt (S.box (b := p5) (i5) (by simpa using h5)) 1 (v := .int .i64 x.n) rfl
  have d3 := cellAt (S.box (b := p5) (i5) (by simpa using h5)) 2 (v := .string x.s) rfl
  have M := Lib.hid (((S.replace i hi G x j (j + 1) (.slice none 0 0) [] (seesV_none W) (by simpa using hN)).mono fun e W' hh => hh : Calls Tryz.prog 33 #[.pointer (some ⟨h, 0, none⟩), .agg #[.int .i64 x.kind, .int .i64 x.n, .string x.s], .int .i64 j, .int .i64 (j + 1), .slice none 0 0] W fun e W' => e = .returned (.bool (H.canReplace x j (j + 1))) ∧ Sep w (Rs.set i (heapR h (H.replace x j (j + 1) []))) W'))
  clear S
  go_enter Tryz.func84, Tryz.ntmps84
  go_wp2_with fail
  refine M.out.mono ?_
  rintro e w1 ⟨rfl, S⟩
  clear M d0 d1 d2 d3
  replace S := Lib.hid S
  go_wp2
  go_returns
  exact ⟨rfl, S.out⟩
theorem placeP_wrap {n : Nat} {i : Int} (hn : n ≤ 9000000) (h : inP n i = true) : IntKind.i64.wrap (placeP n i + 1) = placeP n i + 1 := by
  unfold inP at h
  simp at h
  exact IntWalk.i64_in _ (by omega)
set_option maxRecDepth 100000 in
set_option maxHeartbeats 12800000 in
theorem chg_index (S : Sep w Rs W) (i : Nat) (hi : Rs[i]? = some (heapR h H)) {N : Nat} (G : H.Good N) (hN : N ≤ 4000000) (x y : V) (fi fp : Value) (hl : H.kind x = 1) (hy : y.kind = 2) (hp : inP (H.items x).length y.n = false) : Calls Tryz.prog 80 #[.pointer (some ⟨h, 0, none⟩), .agg #[.int .i64 x.kind, .int .i64 x.n, .string x.s], .agg #[.int .i64 y.kind, .int .i64 y.n, .string y.s], fi, fp] W fun e W' => e = .returned (excN indexError) ∧ Sep w Rs W' := by
  obtain ⟨kx, hK⟩ : ∃ k, H.kind x = k := ⟨_, rfl⟩
  have hk1 : (kx == 1) = true := by rw [← hK]; simp [hl]
  have hy2 : (y.kind == 2) = true := by simp [hy]
  have HK := Lib.hid hK
  obtain ⟨X1, hX1⟩ : ∃ l, l = H.items x := ⟨_, rfl⟩
  have hgx : X1.length ≤ N := by rw [hX1]; exact G.items x
  have HX := Lib.hid hX1
  rw [← hX1] at hp
  have HPL := Lib.hid hp
  clear hK hl hy hX1 hp
  obtain ⟨b, hb⟩ : ∃ gx_, (W.heap.size) = gx_ := ⟨_, rfl⟩
  replace S := (((S.alloc (.cells #[.int .i64 x.kind, .int .i64 x.n, .string x.s] 29)).alloc (.cells #[.int .i64 y.kind, .int .i64 y.n, .string y.s] 29)).alloc (.cells #[.string ⟨#[]⟩, .int .i64 0, .int .i64 0, .string ⟨#[]⟩, .bool false] 38))
  simp only [World.size_alloc, hb] at S
  replace S : Sep w (boxE (b + 1 + 1) :: boxV (b + 1) y :: boxV b x :: Rs) (((W.alloc (.cells #[.int .i64 x.kind, .int .i64 x.n, .string x.s] 29)).alloc (.cells #[.int .i64 y.kind, .int .i64 y.n, .string y.s] 29)).alloc (.cells #[.string ⟨#[]⟩, .int .i64 0, .int .i64 0, .string ⟨#[]⟩, .bool false] 38)) := S
  obtain ⟨bA, hbs⟩ : ∃ l, l = boxV (b + 1) y :: boxV b x :: Rs := ⟨_, rfl⟩
  have HBS := Lib.hid hbs
  replace S : Sep w ([boxE (b + 1 + 1)] ++ bA) (((W.alloc (.cells #[.int .i64 x.kind, .int .i64 x.n, .string x.s] 29)).alloc (.cells #[.int .i64 y.kind, .int .i64 y.n, .string y.s] 29)).alloc (.cells #[.string ⟨#[]⟩, .int .i64 0, .int .i64 0, .string ⟨#[]⟩, .bool false] 38)) := by
    rw [hbs]
    refine (show Sep w ([boxE (b + 1 + 1), boxV (b + 1) y, boxV b x] ++ Rs) _ from S).perm ?_
    exact (show ([boxE (b + 1 + 1), boxV (b + 1) y, boxV b x] ++ Rs).Perm ([boxE (b + 1 + 1)] ++ ([boxV (b + 1) y, boxV b x] ++ Rs)) from by rw [← List.append_assoc]; exact List.Perm.append_right Rs (by exact perm_of [0, 1, 2] (by show (List.range' 0 3).Perm [0, 1, 2]; decide) (by rfl)))
  have C1 : Hid (∀ W (Q : List Res), Sep w (Q ++ bA) W → W.cell? ⟨b + 1, 0, none⟩ = some (.int .i64 y.kind) ∧ W.cell? ⟨b + 1, 1, none⟩ = some (.int .i64 y.n) ∧ W.cell? ⟨b + 1, 2, none⟩ = some (.string y.s)) := Lib.hid fun W Q T => by
    rw [hbs] at T
    have i0 := T.box (b := b + 1) (o := objV y) (Q.length + 0) (by rw [List.getElem?_append_right (by omega), Nat.add_sub_cancel_left]; rfl)
    exact ⟨cellAt i0 0 rfl, cellAt i0 1 rfl, cellAt i0 2 rfl⟩
  have C0 : Hid (∀ W (Q : List Res), Sep w (Q ++ bA) W → W.cell? ⟨b, 0, none⟩ = some (.int .i64 x.kind) ∧ W.cell? ⟨b, 1, none⟩ = some (.int .i64 x.n) ∧ W.cell? ⟨b, 2, none⟩ = some (.string x.s)) := Lib.hid fun W Q T => by
    rw [hbs] at T
    have i0 := T.box (b := b) (o := objV x) (Q.length + 1) (by rw [List.getElem?_append_right (by omega), Nat.add_sub_cancel_left]; rfl)
    exact ⟨cellAt i0 0 rfl, cellAt i0 1 rfl, cellAt i0 2 rfl⟩
  clear hbs
  replace S := Lib.hid S
  go_enter Tryz.func80, Tryz.ntmps80
  go_upto_region 1 with fail
  try simp only [World.size_alloc, hb]
  clear hb
  have KK : Hid (∀ W (Q : List Res), Sep w (Q ++ bA) W → Calls Tryz.prog 30 #[.pointer (some ⟨h, 0, none⟩), .agg #[.int .i64 x.kind, .int .i64 x.n, .string x.s]] W fun e W' => e = .returned (.int .i64 kx) ∧ Sep w (Q ++ bA) W') := Lib.hid fun W Q T => by
    rw [HBS.out] at T ⊢
    exact kind_at T (Q.length + 2 + i) (by rw [List.getElem?_append_right (by omega), show Q.length + 2 + i - Q.length = i + 2 by omega]; simpa using hi) x kx HK.out
  refine regionL (E := [boxE (b + 1 + 1)]) (base := bA) S.out ?_
  clear S
  refine quietL ?_
  simp only [pu]
  refine quietL (hy := fun E Wx hSw => by ((refine and3 (C0.out _ _ hSw) fun u0 u1 u2 => ?_); go_simp; exact ⟨rfl, hSw⟩)) (h := ?_)
  simp only [pu]
  refine quietL (hy := fun E Wx hSw => by (go_simp; exact symCall (KK.out _ _ hSw))) (h := ?_)
  simp only [pu]
  iterate 3 (refine quietL ?_; simp only [pu])
  refine quietL (hy := fun E Wx hSw => by ((refine and3 (C1.out _ _ hSw) fun u0 u1 u2 => ?_); go_simp; exact ⟨rfl, hSw⟩)) (h := ?_)
  simp only [pu]
  iterate 3 (refine quietL ?_; simp only [pu])
  intro w1 S
  replace S := Lib.hid S
  have KL : Hid (∀ W (Q : List Res), Sep w (Q ++ bA) W → Calls Tryz.prog 24 #[.pointer (some ⟨h, 0, none⟩), .agg #[.int .i64 x.kind, .int .i64 x.n, .string x.s]] W fun e W' => e = .returned (.int .i64 X1.length) ∧ Sep w (Q ++ bA) W') := Lib.hid fun W Q T => by
    rw [HBS.out] at T ⊢
    exact len_at T (Q.length + 2 + i) (by rw [List.getElem?_append_right (by omega), show Q.length + 2 + i - Q.length = i + 2 by omega]; simpa using hi) x X1.length (by rw [HX.out])
  have KP : Hid (∀ W (Q : List Res), Sep w (Q ++ bA) W → Calls Tryz.prog 73 #[.int .i64 X1.length, .int .i64 y.n] W fun e W' => e = .returned (.tuple #[.int .i64 (placeP X1.length y.n), .bool false]) ∧ Sep w (Q ++ bA) W') := Lib.hid fun W Q T => by
    have hh := place_ok W X1.length y.n (by omega) y.hn
    rw [HPL.out] at hh
    exact hh.mono fun e W' ⟨e1, e2⟩ => ⟨e1, by rw [e2]; exact T⟩
  go_upto_region 2 with fail
  refine regionP 11 0 (E := [boxE (b + 1 + 1)]) (base := bA) S.out ?_
  clear S
  refine quietP ?_
  simp only [pu]
  refine quietP (hy := fun E Wx hSw => by ((refine and3 (C0.out _ _ hSw) fun u0 u1 u2 => ?_); go_simp; exact ⟨rfl, hSw⟩)) (h := ?_)
  simp only [pu]
  refine quietP (hy := fun E Wx hSw => by (go_simp; exact symCall (KL.out _ _ hSw))) (h := ?_)
  simp only [pu]
  refine quietP ?_
  simp only [pu]
  refine quietP (hy := fun E Wx hSw => by ((refine and3 (C1.out _ _ hSw) fun u0 u1 u2 => ?_); go_simp; exact ⟨rfl, hSw⟩)) (h := ?_)
  simp only [pu]
  refine quietP (hy := fun E Wx hSw => by (go_simp; exact symCall (KP.out _ _ hSw))) (h := ?_)
  simp only [pu]
  iterate 5 (refine quietP ?_; simp only [pu])
  refine endP ?_
  refine doneS (h := fun w2 S => ?_)
  replace S := Lib.hid S
  have KQ : Hid (∀ W (Q : List Res), Sep w (Q ++ bA) W → Calls Tryz.prog 57 #[.string indexError] W fun e W' => e = .returned (excN indexError) ∧ Sep w (Q ++ bA) W') := Lib.hid fun W Q T => by
    exact (raise_ok W _).mono fun e W' ⟨e1, e2⟩ => ⟨e1, T.later e2⟩
  go_upto_region 4 with fail
  refine regionL (E := [boxE (b + 1 + 1)]) (base := bA) S.out ?_
  clear S
  refine quietL (hy := fun E Wx hSw => by (go_simp; exact symCall (KQ.out _ _ hSw))) (h := ?_)
  simp only [pu]
  refine detL undef [boxN (b + 1 + 1) indexError] (h1 := fun Wx hSw => by (have hz := hSw.box (b := (b + 1 + 1)) (o := objE) 0 rfl; refine useZ5 hz fun z0 z1 z2 z3 z4 y0 y1 y2 y3 y4 => ?_; go_simp; exact ⟨rfl, hSw.set5 0 rfl (.string indexError) (.int .i64 0) (.int .i64 0) (.string ⟨#[]⟩) (.bool false)⟩)) (h2 := ?_)
  simp only [pu]
  intro w3 S
  replace S := Lib.hid S
  replace S := S.out
  refine useR5 (S.box (b := b + 1 + 1) (o := objN indexError) 0 rfl) fun r0 r1 r2 r3 r4 => ?_
  replace S := Lib.hid S
  go_wp2
  refine bodyPost_ret (v := excN indexError) (by simp [results, Tryz.results80, go_sem, r0, r1, r2, r3, r4]) rfl ⟨rfl, ?_⟩
  replace S := S.out
  rw [HBS.out] at S
  exact S.tail.tail.tail
set_option maxRecDepth 100000 in
set_option maxHeartbeats 12800000 in
theorem chg_w3 (S : Sep w Rs W) (i : Nat) (hi : Rs[i]? = some (heapR h H)) {N : Nat} (G : H.Good N) (hN : N ≤ 4000000) (x y : V) (fi fp : Value) (hl : ¬ H.kind x = 1) (hd : ¬ H.kind x = 3) : Calls Tryz.prog 80 #[.pointer (some ⟨h, 0, none⟩), .agg #[.int .i64 x.kind, .int .i64 x.n, .string x.s], .agg #[.int .i64 y.kind, .int .i64 y.n, .string y.s], fi, fp] W fun e W' => e = .returned (excN typeError) ∧ Sep w Rs W' := by
  obtain ⟨kx, hK⟩ : ∃ k, H.kind x = k := ⟨_, rfl⟩
  have hk1 : (kx == 1) = false := by rw [← hK]; simpa using hl
  have hk3 : (kx == 3) = false := by rw [← hK]; simpa using hd
  have HK := Lib.hid hK
  clear hK hl hd
  obtain ⟨b, hb⟩ : ∃ gx_, (W.heap.size) = gx_ := ⟨_, rfl⟩
  replace S := (((S.alloc (.cells #[.int .i64 x.kind, .int .i64 x.n, .string x.s] 29)).alloc (.cells #[.int .i64 y.kind, .int .i64 y.n, .string y.s] 29)).alloc (.cells #[.string ⟨#[]⟩, .int .i64 0, .int .i64 0, .string ⟨#[]⟩, .bool false] 38))
  simp only [World.size_alloc, hb] at S
  replace S : Sep w (boxE (b + 1 + 1) :: boxV (b + 1) y :: boxV b x :: Rs) (((W.alloc (.cells #[.int .i64 x.kind, .int .i64 x.n, .string x.s] 29)).alloc (.cells #[.int .i64 y.kind, .int .i64 y.n, .string y.s] 29)).alloc (.cells #[.string ⟨#[]⟩, .int .i64 0, .int .i64 0, .string ⟨#[]⟩, .bool false] 38)) := S
  obtain ⟨bA, hbs⟩ : ∃ l, l = boxV (b + 1) y :: boxV b x :: Rs := ⟨_, rfl⟩
  have HBS := Lib.hid hbs
  replace S : Sep w ([boxE (b + 1 + 1)] ++ bA) (((W.alloc (.cells #[.int .i64 x.kind, .int .i64 x.n, .string x.s] 29)).alloc (.cells #[.int .i64 y.kind, .int .i64 y.n, .string y.s] 29)).alloc (.cells #[.string ⟨#[]⟩, .int .i64 0, .int .i64 0, .string ⟨#[]⟩, .bool false] 38)) := by
    rw [hbs]
    refine (show Sep w ([boxE (b + 1 + 1), boxV (b + 1) y, boxV b x] ++ Rs) _ from S).perm ?_
    exact (show ([boxE (b + 1 + 1), boxV (b + 1) y, boxV b x] ++ Rs).Perm ([boxE (b + 1 + 1)] ++ ([boxV (b + 1) y, boxV b x] ++ Rs)) from by rw [← List.append_assoc]; exact List.Perm.append_right Rs (by exact perm_of [0, 1, 2] (by show (List.range' 0 3).Perm [0, 1, 2]; decide) (by rfl)))
  have C1 : Hid (∀ W (Q : List Res), Sep w (Q ++ bA) W → W.cell? ⟨b + 1, 0, none⟩ = some (.int .i64 y.kind) ∧ W.cell? ⟨b + 1, 1, none⟩ = some (.int .i64 y.n) ∧ W.cell? ⟨b + 1, 2, none⟩ = some (.string y.s)) := Lib.hid fun W Q T => by
    rw [hbs] at T
    have i0 := T.box (b := b + 1) (o := objV y) (Q.length + 0) (by rw [List.getElem?_append_right (by omega), Nat.add_sub_cancel_left]; rfl)
    exact ⟨cellAt i0 0 rfl, cellAt i0 1 rfl, cellAt i0 2 rfl⟩
  have C0 : Hid (∀ W (Q : List Res), Sep w (Q ++ bA) W → W.cell? ⟨b, 0, none⟩ = some (.int .i64 x.kind) ∧ W.cell? ⟨b, 1, none⟩ = some (.int .i64 x.n) ∧ W.cell? ⟨b, 2, none⟩ = some (.string x.s)) := Lib.hid fun W Q T => by
    rw [hbs] at T
    have i0 := T.box (b := b) (o := objV x) (Q.length + 1) (by rw [List.getElem?_append_right (by omega), Nat.add_sub_cancel_left]; rfl)
    exact ⟨cellAt i0 0 rfl, cellAt i0 1 rfl, cellAt i0 2 rfl⟩
  clear hbs
  replace S := Lib.hid S
  go_enter Tryz.func80, Tryz.ntmps80
  go_upto_region 1 with fail
  try simp only [World.size_alloc, hb]
  clear hb
  have KK : Hid (∀ W (Q : List Res), Sep w (Q ++ bA) W → Calls Tryz.prog 30 #[.pointer (some ⟨h, 0, none⟩), .agg #[.int .i64 x.kind, .int .i64 x.n, .string x.s]] W fun e W' => e = .returned (.int .i64 kx) ∧ Sep w (Q ++ bA) W') := Lib.hid fun W Q T => by
    rw [HBS.out] at T ⊢
    exact kind_at T (Q.length + 2 + i) (by rw [List.getElem?_append_right (by omega), show Q.length + 2 + i - Q.length = i + 2 by omega]; simpa using hi) x kx HK.out
  refine regionL (E := [boxE (b + 1 + 1)]) (base := bA) S.out ?_
  clear S
  refine quietL ?_
  simp only [pu]
  refine quietL (hy := fun E Wx hSw => by ((refine and3 (C0.out _ _ hSw) fun u0 u1 u2 => ?_); go_simp; exact ⟨rfl, hSw⟩)) (h := ?_)
  simp only [pu]
  refine quietL (hy := fun E Wx hSw => by (go_simp; exact symCall (KK.out _ _ hSw))) (h := ?_)
  simp only [pu]
  iterate 2 (refine quietL ?_; simp only [pu])
  iterate 3 (refine skipL ?_; simp only [pu])
  iterate 2 (refine quietL ?_; simp only [pu])
  intro w1 S
  replace S := Lib.hid S
  go_upto_region 7 with fail
  refine regionL (E := [boxE (b + 1 + 1)]) (base := bA) S.out ?_
  clear S
  refine quietL ?_
  simp only [pu]
  refine quietL (hy := fun E Wx hSw => by ((refine and3 (C0.out _ _ hSw) fun u0 u1 u2 => ?_); go_simp; exact ⟨rfl, hSw⟩)) (h := ?_)
  simp only [pu]
  refine quietL (hy := fun E Wx hSw => by (go_simp; exact symCall (KK.out _ _ hSw))) (h := ?_)
  simp only [pu]
  iterate 2 (refine quietL ?_; simp only [pu])
  iterate 2 (refine skipL ?_; simp only [pu])
  iterate 2 (refine quietL ?_; simp only [pu])
  intro w2 S
  replace S := Lib.hid S
  have KQ : Hid (∀ W (Q : List Res), Sep w (Q ++ bA) W → Calls Tryz.prog 57 #[.string typeError] W fun e W' => e = .returned (excN typeError) ∧ Sep w (Q ++ bA) W') := Lib.hid fun W Q T => by
    exact (raise_ok W _).mono fun e W' ⟨e1, e2⟩ => ⟨e1, T.later e2⟩
  go_upto_region 9 with fail
  refine regionL (E := [boxE (b + 1 + 1)]) (base := bA) S.out ?_
  clear S
  refine quietL (hy := fun E Wx hSw => by (go_simp; exact symCall (KQ.out _ _ hSw))) (h := ?_)
  simp only [pu]
  refine detL undef [boxN (b + 1 + 1) typeError] (h1 := fun Wx hSw => by (have hz := hSw.box (b := (b + 1 + 1)) (o := objE) 0 rfl; refine useZ5 hz fun z0 z1 z2 z3 z4 y0 y1 y2 y3 y4 => ?_; go_simp; exact ⟨rfl, hSw.set5 0 rfl (.string typeError) (.int .i64 0) (.int .i64 0) (.string ⟨#[]⟩) (.bool false)⟩)) (h2 := ?_)
  simp only [pu]
  intro w3 S
  replace S := Lib.hid S
  replace S := S.out
  refine useR5 (S.box (b := b + 1 + 1) (o := objN typeError) 0 rfl) fun r0 r1 r2 r3 r4 => ?_
  replace S := Lib.hid S
  go_wp2
  refine bodyPost_ret (v := excN typeError) (by simp [results, Tryz.results80, go_sem, r0, r1, r2, r3, r4]) rfl ⟨rfl, ?_⟩
  replace S := S.out
  rw [HBS.out] at S
  exact S.tail.tail.tail
set_option maxRecDepth 100000 in
set_option maxHeartbeats 12800000 in
theorem chg_set (S : Sep w Rs W) (i : Nat) (hi : Rs[i]? = some (heapR h H)) {N : Nat} (G : H.Good N) (hN : N ≤ 4000000) (x y : V) (z : V) {p4 p5 p7 i4 i5 i7 : Nat} (h4 : Rs[i4]? = some (boxR p4 (.cells #[.pointer (some ⟨h, 0, none⟩)] 31)))(h5 : Rs[i5]? = some (boxV p5 x))(h7 : Rs[i7]? = some (boxV p7 z)) (fp : Value) (hl : H.kind x = 1) (hy : y.kind = 2) (hp : inP (H.items x).length y.n = true) : Calls Tryz.prog 80 #[.pointer (some ⟨h, 0, none⟩), .agg #[.int .i64 x.kind, .int .i64 x.n, .string x.s], .agg #[.int .i64 y.kind, .int .i64 y.n, .string y.s], .func (.func 81) #[] #[.pointer (some ⟨p4, 0, none⟩), .pointer (some ⟨p5, 0, none⟩), .pointer (some ⟨p7, 0, none⟩)], fp] W fun e W' => e = .returned excZ ∧ Sep w (Rs.set i (heapR h (H.setAt x (placeP (H.items x).length y.n) z))) W' := by
  obtain ⟨kx, hK⟩ : ∃ k, H.kind x = k := ⟨_, rfl⟩
  have hk1 : (kx == 1) = true := by rw [← hK]; simp [hl]
  have hy2 : (y.kind == 2) = true := by simp [hy]
  have HK := Lib.hid hK
  obtain ⟨X1, hX1⟩ : ∃ l, l = H.items x := ⟨_, rfl⟩
  have hgx : X1.length ≤ N := by rw [hX1]; exact G.items x
  have HX := Lib.hid hX1
  rw [← hX1] at hp
  have HPL := Lib.hid hp
  clear hK hl hy hX1 hp
  obtain ⟨b, hb⟩ : ∃ gx_, (W.heap.size) = gx_ := ⟨_, rfl⟩
  replace S := (((S.alloc (.cells #[.int .i64 x.kind, .int .i64 x.n, .string x.s] 29)).alloc (.cells #[.int .i64 y.kind, .int .i64 y.n, .string y.s] 29)).alloc (.cells #[.string ⟨#[]⟩, .int .i64 0, .int .i64 0, .string ⟨#[]⟩, .bool false] 38))
  simp only [World.size_alloc, hb] at S
  replace S : Sep w (boxE (b + 1 + 1) :: boxV (b + 1) y :: boxV b x :: Rs) (((W.alloc (.cells #[.int .i64 x.kind, .int .i64 x.n, .string x.s] 29)).alloc (.cells #[.int .i64 y.kind, .int .i64 y.n, .string y.s] 29)).alloc (.cells #[.string ⟨#[]⟩, .int .i64 0, .int .i64 0, .string ⟨#[]⟩, .bool false] 38)) := S
  obtain ⟨bA, hbs⟩ : ∃ l, l = boxV (b + 1) y :: boxV b x :: Rs := ⟨_, rfl⟩
  have HBS := Lib.hid hbs
  replace S : Sep w ([boxE (b + 1 + 1)] ++ bA) (((W.alloc (.cells #[.int .i64 x.kind, .int .i64 x.n, .string x.s] 29)).alloc (.cells #[.int .i64 y.kind, .int .i64 y.n, .string y.s] 29)).alloc (.cells #[.string ⟨#[]⟩, .int .i64 0, .int .i64 0, .string ⟨#[]⟩, .bool false] 38)) := by
    rw [hbs]
    refine (show Sep w ([boxE (b + 1 + 1), boxV (b + 1) y, boxV b x] ++ Rs) _ from S).perm ?_
    exact (show ([boxE (b + 1 + 1), boxV (b + 1) y, boxV b x] ++ Rs).Perm ([boxE (b + 1 + 1)] ++ ([boxV (b + 1) y, boxV b x] ++ Rs)) from by rw [← List.append_assoc]; exact List.Perm.append_right Rs (by exact perm_of [0, 1, 2] (by show (List.range' 0 3).Perm [0, 1, 2]; decide) (by rfl)))
  have C1 : Hid (∀ W (Q : List Res), Sep w (Q ++ bA) W → W.cell? ⟨b + 1, 0, none⟩ = some (.int .i64 y.kind) ∧ W.cell? ⟨b + 1, 1, none⟩ = some (.int .i64 y.n) ∧ W.cell? ⟨b + 1, 2, none⟩ = some (.string y.s)) := Lib.hid fun W Q T => by
    rw [hbs] at T
    have i0 := T.box (b := b + 1) (o := objV y) (Q.length + 0) (by rw [List.getElem?_append_right (by omega), Nat.add_sub_cancel_left]; rfl)
    exact ⟨cellAt i0 0 rfl, cellAt i0 1 rfl, cellAt i0 2 rfl⟩
  have C0 : Hid (∀ W (Q : List Res), Sep w (Q ++ bA) W → W.cell? ⟨b, 0, none⟩ = some (.int .i64 x.kind) ∧ W.cell? ⟨b, 1, none⟩ = some (.int .i64 x.n) ∧ W.cell? ⟨b, 2, none⟩ = some (.string x.s)) := Lib.hid fun W Q T => by
    rw [hbs] at T
    have i0 := T.box (b := b) (o := objV x) (Q.length + 1) (by rw [List.getElem?_append_right (by omega), Nat.add_sub_cancel_left]; rfl)
    exact ⟨cellAt i0 0 rfl, cellAt i0 1 rfl, cellAt i0 2 rfl⟩
  clear hbs
  replace S := Lib.hid S
  go_enter Tryz.func80, Tryz.ntmps80
  go_upto_region 1 with fail
  try simp only [World.size_alloc, hb]
  clear hb
  have KK : Hid (∀ W (Q : List Res), Sep w (Q ++ bA) W → Calls Tryz.prog 30 #[.pointer (some ⟨h, 0, none⟩), .agg #[.int .i64 x.kind, .int .i64 x.n, .string x.s]] W fun e W' => e = .returned (.int .i64 kx) ∧ Sep w (Q ++ bA) W') := Lib.hid fun W Q T => by
    rw [HBS.out] at T ⊢
    exact kind_at T (Q.length + 2 + i) (by rw [List.getElem?_append_right (by omega), show Q.length + 2 + i - Q.length = i + 2 by omega]; simpa using hi) x kx HK.out
  refine regionL (E := [boxE (b + 1 + 1)]) (base := bA) S.out ?_
  clear S
  refine quietL ?_
  simp only [pu]
  refine quietL (hy := fun E Wx hSw => by ((refine and3 (C0.out _ _ hSw) fun u0 u1 u2 => ?_); go_simp; exact ⟨rfl, hSw⟩)) (h := ?_)
  simp only [pu]
  refine quietL (hy := fun E Wx hSw => by (go_simp; exact symCall (KK.out _ _ hSw))) (h := ?_)
  simp only [pu]
  iterate 3 (refine quietL ?_; simp only [pu])
  refine quietL (hy := fun E Wx hSw => by ((refine and3 (C1.out _ _ hSw) fun u0 u1 u2 => ?_); go_simp; exact ⟨rfl, hSw⟩)) (h := ?_)
  simp only [pu]
  iterate 3 (refine quietL ?_; simp only [pu])
  intro w1 S
  replace S := Lib.hid S
  have KL : Hid (∀ W (Q : List Res), Sep w (Q ++ bA) W → Calls Tryz.prog 24 #[.pointer (some ⟨h, 0, none⟩), .agg #[.int .i64 x.kind, .int .i64 x.n, .string x.s]] W fun e W' => e = .returned (.int .i64 X1.length) ∧ Sep w (Q ++ bA) W') := Lib.hid fun W Q T => by
    rw [HBS.out] at T ⊢
    exact len_at T (Q.length + 2 + i) (by rw [List.getElem?_append_right (by omega), show Q.length + 2 + i - Q.length = i + 2 by omega]; simpa using hi) x X1.length (by rw [HX.out])
  have KP : Hid (∀ W (Q : List Res), Sep w (Q ++ bA) W → Calls Tryz.prog 73 #[.int .i64 X1.length, .int .i64 y.n] W fun e W' => e = .returned (.tuple #[.int .i64 (placeP X1.length y.n), .bool true]) ∧ Sep w (Q ++ bA) W') := Lib.hid fun W Q T => by
    have hh := place_ok W X1.length y.n (by omega) y.hn
    rw [HPL.out] at hh
    exact hh.mono fun e W' ⟨e1, e2⟩ => ⟨e1, by rw [e2]; exact T⟩
  go_upto_region 2 with fail
  refine regionP 11 0 (E := [boxE (b + 1 + 1)]) (base := bA) S.out ?_
  clear S
  refine quietP ?_
  simp only [pu]
  refine quietP (hy := fun E Wx hSw => by ((refine and3 (C0.out _ _ hSw) fun u0 u1 u2 => ?_); go_simp; exact ⟨rfl, hSw⟩)) (h := ?_)
  simp only [pu]
  refine quietP (hy := fun E Wx hSw => by (go_simp; exact symCall (KL.out _ _ hSw))) (h := ?_)
  simp only [pu]
  refine quietP ?_
  simp only [pu]
  refine quietP (hy := fun E Wx hSw => by ((refine and3 (C1.out _ _ hSw) fun u0 u1 u2 => ?_); go_simp; exact ⟨rfl, hSw⟩)) (h := ?_)
  simp only [pu]
  refine quietP (hy := fun E Wx hSw => by (go_simp; exact symCall (KP.out _ _ hSw))) (h := ?_)
  simp only [pu]
  iterate 5 (refine quietP ?_; simp only [pu])
  refine endP ?_
  refine doneS (h := fun w2 S => ?_)
  replace S := Lib.hid S
  go_upto_region 5 with fail
  replace S := S.out
  rw [HBS.out] at S
  have M := Lib.hid (set_item S (i + 3) (by simpa using hi) (i4 := i4 + 3) (i5 := i5 + 3) (i7 := i7 + 3) (by simpa using h4) x z (by simpa using h5) (by simpa using h7) (placeP X1.length y.n) (okI_place (n := X1.length) (by omega) y.hn))
  clear S
  go_wp2_with fail
  refine M.out.mono ?_
  rintro e v3 ⟨rfl, S⟩
  clear M
  obtain ⟨bB, hbs⟩ : ∃ l, l = boxV (b + 1) y :: boxV b x :: Rs.set i (heapR h (H.setAt x (placeP X1.length y.n) z)) := ⟨_, rfl⟩
  have HBSbB := Lib.hid hbs
  replace S : Sep w ([boxE (b + 1 + 1)] ++ bB) v3 := by rw [hbs]; exact S
  clear hbs HBS
  have HBS := HBSbB
  clear HBSbB
  replace S := Lib.hid S
  go_upto_region 6 with fail
  refine regionL (E := [boxE (b + 1 + 1)]) (base := bB) S.out ?_
  clear S
  refine quietL ?_
  simp only [pu]
  refine detL undef [boxE (b + 1 + 1)] (h1 := fun Wx hSw => by (have hz := hSw.box (b := (b + 1 + 1)) (o := objE) 0 rfl; refine useZ5 hz fun z0 z1 z2 z3 z4 y0 y1 y2 y3 y4 => ?_; go_simp; exact ⟨rfl, hSw.set5 0 rfl (.string ⟨#[]⟩) (.int .i64 0) (.int .i64 0) (.string ⟨#[]⟩) (.bool false)⟩)) (h2 := ?_)
  simp only [pu]
  intro w4 S
  replace S := Lib.hid S
  replace S := S.out
  refine useR5 (S.box (b := b + 1 + 1) (o := objE) 0 rfl) fun r0 r1 r2 r3 r4 => ?_
  replace S := Lib.hid S
  go_wp2
  refine bodyPost_ret (v := excZ) (by simp [results, Tryz.results80, go_sem, r0, r1, r2, r3, r4]) rfl ⟨rfl, ?_⟩
  replace S := S.out
  rw [HBS.out] at S
  rw [HX.out] at S
  exact S.tail.tail.tail
set_option maxRecDepth 100000 in
set_option maxHeartbeats 12800000 in
theorem chg_del (S : Sep w Rs W) (i : Nat) (hi : Rs[i]? = some (heapR h H)) {N : Nat} (G : H.Good N) (hN : N ≤ 4000000) (x y : V) {p4 p5 i4 i5 : Nat} (h4 : Rs[i4]? = some (boxR p4 (.cells #[.pointer (some ⟨h, 0, none⟩)] 31)))(h5 : Rs[i5]? = some (boxV p5 x)) (fp : Value) (hl : H.kind x = 1) (hy : y.kind = 2) (hp : inP (H.items x).length y.n = true) : Calls Tryz.prog 80 #[.pointer (some ⟨h, 0, none⟩), .agg #[.int .i64 x.kind, .int .i64 x.n, .string x.s], .agg #[.int .i64 y.kind, .int .i64 y.n, .string y.s], .func (.func 84) #[] #[.pointer (some ⟨p4, 0, none⟩), .pointer (some ⟨p5, 0, none⟩)], fp] W fun e W' => e = .returned excZ ∧ Sep w (Rs.set i (heapR h (H.replace x (placeP (H.items x).length y.n) (placeP (H.items x).length y.n + 1) []))) W' := by
  obtain ⟨kx, hK⟩ : ∃ k, H.kind x = k := ⟨_, rfl⟩
  have hk1 : (kx == 1) = true := by rw [← hK]; simp [hl]
  have hy2 : (y.kind == 2) = true := by simp [hy]
  have HK := Lib.hid hK
  obtain ⟨X1, hX1⟩ : ∃ l, l = H.items x := ⟨_, rfl⟩
  have hgx : X1.length ≤ N := by rw [hX1]; exact G.items x
  have HX := Lib.hid hX1
  rw [← hX1] at hp
  have HPL := Lib.hid hp
  clear hK hl hy hX1 hp
  obtain ⟨b, hb⟩ : ∃ gx_, (W.heap.size) = gx_ := ⟨_, rfl⟩
  replace S := (((S.alloc (.cells #[.int .i64 x.kind, .int .i64 x.n, .string x.s] 29)).alloc (.cells #[.int .i64 y.kind, .int .i64 y.n, .string y.s] 29)).alloc (.cells #[.string ⟨#[]⟩, .int .i64 0, .int .i64 0, .string ⟨#[]⟩, .bool false] 38))
  simp only [World.size_alloc, hb] at S
  replace S : Sep w (boxE (b + 1 + 1) :: boxV (b + 1) y :: boxV b x :: Rs) (((W.alloc (.cells #[.int .i64 x.kind, .int .i64 x.n, .string x.s] 29)).alloc (.cells #[.int .i64 y.kind, .int .i64 y.n, .string y.s] 29)).alloc (.cells #[.string ⟨#[]⟩, .int .i64 0, .int .i64 0, .string ⟨#[]⟩, .bool false] 38)) := S
  obtain ⟨bA, hbs⟩ : ∃ l, l = boxV (b + 1) y :: boxV b x :: Rs := ⟨_, rfl⟩
  have HBS := Lib.hid hbs
  replace S : Sep w ([boxE (b + 1 + 1)] ++ bA) (((W.alloc (.cells #[.int .i64 x.kind, .int .i64 x.n, .string x.s] 29)).alloc (.cells #[.int .i64 y.kind, .int .i64 y.n, .string y.s] 29)).alloc (.cells #[.string ⟨#[]⟩, .int .i64 0, .int .i64 0, .string ⟨#[]⟩, .bool false] 38)) := by
    rw [hbs]
    refine (show Sep w ([boxE (b + 1 + 1), boxV (b + 1) y, boxV b x] ++ Rs) _ from S).perm ?_
    exact (show ([boxE (b + 1 + 1), boxV (b + 1) y, boxV b x] ++ Rs).Perm ([boxE (b + 1 + 1)] ++ ([boxV (b + 1) y, boxV b x] ++ Rs)) from by rw [← List.append_assoc]; exact List.Perm.append_right Rs (by exact perm_of [0, 1, 2] (by show (List.range' 0 3).Perm [0, 1, 2]; decide) (by rfl)))
  have C1 : Hid (∀ W (Q : List Res), Sep w (Q ++ bA) W → W.cell? ⟨b + 1, 0, none⟩ = some (.int .i64 y.kind) ∧ W.cell? ⟨b + 1, 1, none⟩ = some (.int .i64 y.n) ∧ W.cell? ⟨b + 1, 2, none⟩ = some (.string y.s)) := Lib.hid fun W Q T => by
    rw [hbs] at T
    have i0 := T.box (b := b + 1) (o := objV y) (Q.length + 0) (by rw [List.getElem?_append_right (by omega), Nat.add_sub_cancel_left]; rfl)
    exact ⟨cellAt i0 0 rfl, cellAt i0 1 rfl, cellAt i0 2 rfl⟩
  have C0 : Hid (∀ W (Q : List Res), Sep w (Q ++ bA) W → W.cell? ⟨b, 0, none⟩ = some (.int .i64 x.kind) ∧ W.cell? ⟨b, 1, none⟩ = some (.int .i64 x.n) ∧ W.cell? ⟨b, 2, none⟩ = some (.string x.s)) := Lib.hid fun W Q T => by
    rw [hbs] at T
    have i0 := T.box (b := b) (o := objV x) (Q.length + 1) (by rw [List.getElem?_append_right (by omega), Nat.add_sub_cancel_left]; rfl)
    exact ⟨cellAt i0 0 rfl, cellAt i0 1 rfl, cellAt i0 2 rfl⟩
  clear hbs
  replace S := Lib.hid S
  go_enter Tryz.func80, Tryz.ntmps80
  go_upto_region 1 with fail
  try simp only [World.size_alloc, hb]
  clear hb
  have KK : Hid (∀ W (Q : List Res), Sep w (Q ++ bA) W → Calls Tryz.prog 30 #[.pointer (some ⟨h, 0, none⟩), .agg #[.int .i64 x.kind, .int .i64 x.n, .string x.s]] W fun e W' => e = .returned (.int .i64 kx) ∧ Sep w (Q ++ bA) W') := Lib.hid fun W Q T => by
    rw [HBS.out] at T ⊢
    exact kind_at T (Q.length + 2 + i) (by rw [List.getElem?_append_right (by omega), show Q.length + 2 + i - Q.length = i + 2 by omega]; simpa using hi) x kx HK.out
  refine regionL (E := [boxE (b + 1 + 1)]) (base := bA) S.out ?_
  clear S
  refine quietL ?_
  simp only [pu]
  refine quietL (hy := fun E Wx hSw => by ((refine and3 (C0.out _ _ hSw) fun u0 u1 u2 => ?_); go_simp; exact ⟨rfl, hSw⟩)) (h := ?_)
  simp only [pu]
  refine quietL (hy := fun E Wx hSw => by (go_simp; exact symCall (KK.out _ _ hSw))) (h := ?_)
  simp only [pu]
  iterate 3 (refine quietL ?_; simp only [pu])
  refine quietL (hy := fun E Wx hSw => by ((refine and3 (C1.out _ _ hSw) fun u0 u1 u2 => ?_); go_simp; exact ⟨rfl, hSw⟩)) (h := ?_)
  simp only [pu]
  iterate 3 (refine quietL ?_; simp only [pu])
  intro w1 S
  replace S := Lib.hid S
  have KL : Hid (∀ W (Q : List Res), Sep w (Q ++ bA) W → Calls Tryz.prog 24 #[.pointer (some ⟨h, 0, none⟩), .agg #[.int .i64 x.kind, .int .i64 x.n, .string x.s]] W fun e W' => e = .returned (.int .i64 X1.length) ∧ Sep w (Q ++ bA) W') := Lib.hid fun W Q T => by
    rw [HBS.out] at T ⊢
    exact len_at T (Q.length + 2 + i) (by rw [List.getElem?_append_right (by omega), show Q.length + 2 + i - Q.length = i + 2 by omega]; simpa using hi) x X1.length (by rw [HX.out])
  have KP : Hid (∀ W (Q : List Res), Sep w (Q ++ bA) W → Calls Tryz.prog 73 #[.int .i64 X1.length, .int .i64 y.n] W fun e W' => e = .returned (.tuple #[.int .i64 (placeP X1.length y.n), .bool true]) ∧ Sep w (Q ++ bA) W') := Lib.hid fun W Q T => by
    have hh := place_ok W X1.length y.n (by omega) y.hn
    rw [HPL.out] at hh
    exact hh.mono fun e W' ⟨e1, e2⟩ => ⟨e1, by rw [e2]; exact T⟩
  go_upto_region 2 with fail
  refine regionP 11 0 (E := [boxE (b + 1 + 1)]) (base := bA) S.out ?_
  clear S
  refine quietP ?_
  simp only [pu]
  refine quietP (hy := fun E Wx hSw => by ((refine and3 (C0.out _ _ hSw) fun u0 u1 u2 => ?_); go_simp; exact ⟨rfl, hSw⟩)) (h := ?_)
  simp only [pu]
  refine quietP (hy := fun E Wx hSw => by (go_simp; exact symCall (KL.out _ _ hSw))) (h := ?_)
  simp only [pu]
  refine quietP ?_
  simp only [pu]
  refine quietP (hy := fun E Wx hSw => by ((refine and3 (C1.out _ _ hSw) fun u0 u1 u2 => ?_); go_simp; exact ⟨rfl, hSw⟩)) (h := ?_)
  simp only [pu]
  refine quietP (hy := fun E Wx hSw => by (go_simp; exact symCall (KP.out _ _ hSw))) (h := ?_)
  simp only [pu]
  iterate 5 (refine quietP ?_; simp only [pu])
  refine endP ?_
  refine doneS (h := fun w2 S => ?_)
  replace S := Lib.hid S
  go_upto_region 5 with fail
  replace S := S.out
  rw [HBS.out] at S
  have M := Lib.hid (del_item S (i + 3) (by simpa using hi) G hN (i4 := i4 + 3) (i5 := i5 + 3) (by simpa using h4) x (by simpa using h5) (placeP X1.length y.n) (placeP_wrap (n := X1.length) (i := y.n) (by omega) HPL.out))
  clear S
  go_wp2_with fail
  refine M.out.mono ?_
  rintro e v3 ⟨rfl, S⟩
  clear M
  obtain ⟨bB, hbs⟩ : ∃ l, l = boxV (b + 1) y :: boxV b x :: Rs.set i (heapR h (H.replace x (placeP X1.length y.n) (placeP X1.length y.n + 1) [])) := ⟨_, rfl⟩
  have HBSbB := Lib.hid hbs
  replace S : Sep w ([boxE (b + 1 + 1)] ++ bB) v3 := by rw [hbs]; exact S
  clear hbs HBS
  have HBS := HBSbB
  clear HBSbB
  replace S := Lib.hid S
  go_upto_region 6 with fail
  refine regionL (E := [boxE (b + 1 + 1)]) (base := bB) S.out ?_
  clear S
  refine quietL ?_
  simp only [pu]
  refine detL undef [boxE (b + 1 + 1)] (h1 := fun Wx hSw => by (have hz := hSw.box (b := (b + 1 + 1)) (o := objE) 0 rfl; refine useZ5 hz fun z0 z1 z2 z3 z4 y0 y1 y2 y3 y4 => ?_; go_simp; exact ⟨rfl, hSw.set5 0 rfl (.string ⟨#[]⟩) (.int .i64 0) (.int .i64 0) (.string ⟨#[]⟩) (.bool false)⟩)) (h2 := ?_)
  simp only [pu]
  intro w4 S
  replace S := Lib.hid S
  replace S := S.out
  refine useR5 (S.box (b := b + 1 + 1) (o := objE) 0 rfl) fun r0 r1 r2 r3 r4 => ?_
  replace S := Lib.hid S
  go_wp2
  refine bodyPost_ret (v := excZ) (by simp [results, Tryz.results80, go_sem, r0, r1, r2, r3, r4]) rfl ⟨rfl, ?_⟩
  replace S := S.out
  rw [HBS.out] at S
  rw [HX.out] at S
  exact S.tail.tail.tail
set_option maxRecDepth 100000 in
set_option maxHeartbeats 12800000 in
theorem si_index (S : Sep w Rs W) (i : Nat) (hi : Rs[i]? = some (heapR h H)) {N : Nat} (G : H.Good N) (hN : N ≤ 4000000) (x y z : V) (hl : H.kind x = 1) (hy : y.kind = 2) (hp : inP (H.items x).length y.n = false) : Calls Tryz.prog 39 #[.pointer (some ⟨h, 0, none⟩), .agg #[.int .i64 x.kind, .int .i64 x.n, .string x.s], .agg #[.int .i64 y.kind, .int .i64 y.n, .string y.s], .agg #[.int .i64 z.kind, .int .i64 z.n, .string z.s]] W fun e W' => e = .returned (excN indexError) ∧ Sep w (Rs.set i (heapR h (H))) W' := by
  have Qhl := Lib.hid hl
  have Qhp := Lib.hid hp
  have Qhy := Lib.hid hy
  clear hy hp hl
  obtain ⟨b, hb⟩ : ∃ gx_, (W.heap.size) = gx_ := ⟨_, rfl⟩
  replace S := (((((S.alloc (.cells #[.pointer (some ⟨h, 0, none⟩)] 31)).alloc (.cells #[.int .i64 x.kind, .int .i64 x.n, .string x.s] 29)).alloc (.cells #[.int .i64 y.kind, .int .i64 y.n, .string y.s] 29)).alloc (.cells #[.int .i64 z.kind, .int .i64 z.n, .string z.s] 29)).alloc (.cells #[.string ⟨#[]⟩, .int .i64 0, .int .i64 0, .string ⟨#[]⟩, .bool false] 38))
  simp only [World.size_alloc, hb] at S
  replace S : Sep w (boxE (b + 1 + 1 + 1 + 1) :: boxV (b + 1 + 1 + 1) z :: boxV (b + 1 + 1) y :: boxV (b + 1) x :: boxR b (.cells #[.pointer (some ⟨h, 0, none⟩)] 31) :: Rs) (((((W.alloc (.cells #[.pointer (some ⟨h, 0, none⟩)] 31)).alloc (.cells #[.int .i64 x.kind, .int .i64 x.n, .string x.s] 29)).alloc (.cells #[.int .i64 y.kind, .int .i64 y.n, .string y.s] 29)).alloc (.cells #[.int .i64 z.kind, .int .i64 z.n, .string z.s] 29)).alloc (.cells #[.string ⟨#[]⟩, .int .i64 0, .int .i64 0, .string ⟨#[]⟩, .bool false] 38)) := S
  obtain ⟨Rt, hRt⟩ : ∃ l, l = Rs.eraseIdx i := ⟨_, rfl⟩
  have HF : Hid (∀ H' W', Sep w (heapR h H' :: Rt) W' → Sep w (Rs.set i (heapR h H')) W') := Lib.hid fun H' W' T => by rw [hRt] at T; exact T.perm (perm_push hi).symm
  obtain ⟨bA, hbs⟩ : ∃ l, l = boxV (b + 1 + 1 + 1) z :: boxV (b + 1 + 1) y :: boxV (b + 1) x :: boxR b (.cells #[.pointer (some ⟨h, 0, none⟩)] 31) :: Rt := ⟨_, rfl⟩
  have HBS := Lib.hid hbs
  replace S : Sep w ([boxE (b + 1 + 1 + 1 + 1), heapR h H] ++ bA) (((((W.alloc (.cells #[.pointer (some ⟨h, 0, none⟩)] 31)).alloc (.cells #[.int .i64 x.kind, .int .i64 x.n, .string x.s] 29)).alloc (.cells #[.int .i64 y.kind, .int .i64 y.n, .string y.s] 29)).alloc (.cells #[.int .i64 z.kind, .int .i64 z.n, .string z.s] 29)).alloc (.cells #[.string ⟨#[]⟩, .int .i64 0, .int .i64 0, .string ⟨#[]⟩, .bool false] 38)) := by
    rw [hbs]
    refine (show Sep w ([boxE (b + 1 + 1 + 1 + 1), boxV (b + 1 + 1 + 1) z, boxV (b + 1 + 1) y, boxV (b + 1) x, boxR b (.cells #[.pointer (some ⟨h, 0, none⟩)] 31)] ++ Rs) _ from S).perm ?_
    have e : Rs.Perm (heapR h H :: Rt) := by rw [hRt]; exact perm_pull hi
    refine (List.Perm.append_left _ e).trans ?_
    exact (show ([boxE (b + 1 + 1 + 1 + 1), boxV (b + 1 + 1 + 1) z, boxV (b + 1 + 1) y, boxV (b + 1) x, boxR b (.cells #[.pointer (some ⟨h, 0, none⟩)] 31)] ++ ([heapR h H] ++ Rt)).Perm ([boxE (b + 1 + 1 + 1 + 1), heapR h H] ++ ([boxV (b + 1 + 1 + 1) z, boxV (b + 1 + 1) y, boxV (b + 1) x, boxR b (.cells #[.pointer (some ⟨h, 0, none⟩)] 31)] ++ Rt)) from by rw [← List.append_assoc, ← List.append_assoc]; exact List.Perm.append_right Rt (by exact perm_of [0, 5, 1, 2, 3, 4] (by show (List.range' 0 6).Perm [0, 5, 1, 2, 3, 4]; decide) (by rfl)))
  clear hRt
  have C3 : Hid (∀ W (Q : List Res), Sep w (Q ++ bA) W → W.cell? ⟨b + 1 + 1 + 1, 0, none⟩ = some (.int .i64 z.kind) ∧ W.cell? ⟨b + 1 + 1 + 1, 1, none⟩ = some (.int .i64 z.n) ∧ W.cell? ⟨b + 1 + 1 + 1, 2, none⟩ = some (.string z.s)) := Lib.hid fun W Q T => by
    rw [hbs] at T
    have i0 := T.box (b := b + 1 + 1 + 1) (o := objV z) (Q.length + 0) (by rw [List.getElem?_append_right (by omega), Nat.add_sub_cancel_left]; rfl)
    exact ⟨cellAt i0 0 rfl, cellAt i0 1 rfl, cellAt i0 2 rfl⟩
  have C2 : Hid (∀ W (Q : List Res), Sep w (Q ++ bA) W → W.cell? ⟨b + 1 + 1, 0, none⟩ = some (.int .i64 y.kind) ∧ W.cell? ⟨b + 1 + 1, 1, none⟩ = some (.int .i64 y.n) ∧ W.cell? ⟨b + 1 + 1, 2, none⟩ = some (.string y.s)) := Lib.hid fun W Q T => by
    rw [hbs] at T
    have i0 := T.box (b := b + 1 + 1) (o := objV y) (Q.length + 1) (by rw [List.getElem?_append_right (by omega), Nat.add_sub_cancel_left]; rfl)
    exact ⟨cellAt i0 0 rfl, cellAt i0 1 rfl, cellAt i0 2 rfl⟩
  have C1 : Hid (∀ W (Q : List Res), Sep w (Q ++ bA) W → W.cell? ⟨b + 1, 0, none⟩ = some (.int .i64 x.kind) ∧ W.cell? ⟨b + 1, 1, none⟩ = some (.int .i64 x.n) ∧ W.cell? ⟨b + 1, 2, none⟩ = some (.string x.s)) := Lib.hid fun W Q T => by
    rw [hbs] at T
    have i0 := T.box (b := b + 1) (o := objV x) (Q.length + 2) (by rw [List.getElem?_append_right (by omega), Nat.add_sub_cancel_left]; rfl)
    exact ⟨cellAt i0 0 rfl, cellAt i0 1 rfl, cellAt i0 2 rfl⟩
  have C0 : Hid (∀ W (Q : List Res), Sep w (Q ++ bA) W → W.cell? ⟨b, 0, none⟩ = some (.pointer (some ⟨h, 0, none⟩))) := Lib.hid fun W Q T => by
    rw [hbs] at T
    have i0 := T.box (b := b) (o := .cells #[.pointer (some ⟨h, 0, none⟩)] 31) (Q.length + 3) (by rw [List.getElem?_append_right (by omega), Nat.add_sub_cancel_left]; rfl)
    exact cellAt i0 0 rfl
  clear hbs
  replace S := Lib.hid S
  go_enter Tryz.func39, Tryz.ntmps39
  go_upto_region 1 with fail
  try simp only [World.size_alloc, hb]
  clear hb
  refine regionL (E := [boxE (b + 1 + 1 + 1 + 1), heapR h H]) (base := bA) S.out ?_
  clear S
  refine quietL (hy := fun E Wx hSw => by ((have u0 := C0.out _ _ hSw); go_simp; exact ⟨rfl, hSw⟩)) (h := ?_)
  simp only [pu]
  refine quietL (hy := fun E Wx hSw => by ((refine and3 (C1.out _ _ hSw) fun u0 u1 u2 => ?_); go_simp; exact ⟨rfl, hSw⟩)) (h := ?_)
  simp only [pu]
  refine quietL (hy := fun E Wx hSw => by ((refine and3 (C2.out _ _ hSw) fun u0 u1 u2 => ?_); go_simp; exact ⟨rfl, hSw⟩)) (h := ?_)
  simp only [pu]
  iterate 2 (refine quietL ?_; simp only [pu])
  refine detL (.agg #[.string indexError, .int .i64 0, .int .i64 0, .string ⟨#[]⟩, .bool false]) [boxE (b + 1 + 1 + 1 + 1), heapR h (H)] (h1 := fun Wx hSw => by (go_simp; refine symCall ?_; rw [HBS.out] at hSw ⊢; exact chg_index hSw 1 (by rfl) G hN x y _ _ Qhl.out Qhy.out Qhp.out)) (h2 := ?_)
  simp only [pu]
  refine detL undef [boxN (b + 1 + 1 + 1 + 1) indexError, heapR h (H)] (h1 := fun Wx hSw => by (have hz := hSw.box (b := (b + 1 + 1 + 1 + 1)) (o := objE) 0 rfl; refine useZ5 hz fun z0 z1 z2 z3 z4 y0 y1 y2 y3 y4 => ?_; go_simp; exact ⟨rfl, hSw.set5 0 rfl (.string indexError) (.int .i64 0) (.int .i64 0) (.string ⟨#[]⟩) (.bool false)⟩)) (h2 := ?_)
  simp only [pu]
  intro w1 S
  replace S := Lib.hid S
  replace S := S.out
  refine useR5 (S.box (b := b + 1 + 1 + 1 + 1) (o := objN indexError) 0 rfl) fun r0 r1 r2 r3 r4 => ?_
  replace S := Lib.hid S
  go_wp2
  refine bodyPost_ret (v := .agg #[.string indexError, .int .i64 0, .int .i64 0, .string ⟨#[]⟩, .bool false]) (by simp [results, Tryz.results39, go_sem, r0, r1, r2, r3, r4]) rfl ⟨rfl, ?_⟩
  replace S := S.out
  rw [HBS.out] at S
  exact HF.out _ _ (S.sub (Qs := heapR h (H) :: Rt) (.cons _ (.cons_cons _ (.cons _ (.cons _ (.cons _ (.cons _ (List.Sublist.refl _))))))))
set_option maxRecDepth 100000 in
set_option maxHeartbeats 12800000 in
theorem si_w3 (S : Sep w Rs W) (i : Nat) (hi : Rs[i]? = some (heapR h H)) {N : Nat} (G : H.Good N) (hN : N ≤ 4000000) (x y z : V) (hl : ¬ H.kind x = 1) (hd : ¬ H.kind x = 3) : Calls Tryz.prog 39 #[.pointer (some ⟨h, 0, none⟩), .agg #[.int .i64 x.kind, .int .i64 x.n, .string x.s], .agg #[.int .i64 y.kind, .int .i64 y.n, .string y.s], .agg #[.int .i64 z.kind, .int .i64 z.n, .string z.s]] W fun e W' => e = .returned (excN typeError) ∧ Sep w (Rs.set i (heapR h (H))) W' := by
  have Qhd := Lib.hid hd
  have Qhl := Lib.hid hl
  clear hl hd
  obtain ⟨b, hb⟩ : ∃ gx_, (W.heap.size) = gx_ := ⟨_, rfl⟩
  replace S := (((((S.alloc (.cells #[.pointer (some ⟨h, 0, none⟩)] 31)).alloc (.cells #[.int .i64 x.kind, .int .i64 x.n, .string x.s] 29)).alloc (.cells #[.int .i64 y.kind, .int .i64 y.n, .string y.s] 29)).alloc (.cells #[.int .i64 z.kind, .int .i64 z.n, .string z.s] 29)).alloc (.cells #[.string ⟨#[]⟩, .int .i64 0, .int .i64 0, .string ⟨#[]⟩, .bool false] 38))
  simp only [World.size_alloc, hb] at S
  replace S : Sep w (boxE (b + 1 + 1 + 1 + 1) :: boxV (b + 1 + 1 + 1) z :: boxV (b + 1 + 1) y :: boxV (b + 1) x :: boxR b (.cells #[.pointer (some ⟨h, 0, none⟩)] 31) :: Rs) (((((W.alloc (.cells #[.pointer (some ⟨h, 0, none⟩)] 31)).alloc (.cells #[.int .i64 x.kind, .int .i64 x.n, .string x.s] 29)).alloc (.cells #[.int .i64 y.kind, .int .i64 y.n, .string y.s] 29)).alloc (.cells #[.int .i64 z.kind, .int .i64 z.n, .string z.s] 29)).alloc (.cells #[.string ⟨#[]⟩, .int .i64 0, .int .i64 0, .string ⟨#[]⟩, .bool false] 38)) := S
  obtain ⟨Rt, hRt⟩ : ∃ l, l = Rs.eraseIdx i := ⟨_, rfl⟩
  have HF : Hid (∀ H' W', Sep w (heapR h H' :: Rt) W' → Sep w (Rs.set i (heapR h H')) W') := Lib.hid fun H' W' T => by rw [hRt] at T; exact T.perm (perm_push hi).symm
  obtain ⟨bA, hbs⟩ : ∃ l, l = boxV (b + 1 + 1 + 1) z :: boxV (b + 1 + 1) y :: boxV (b + 1) x :: boxR b (.cells #[.pointer (some ⟨h, 0, none⟩)] 31) :: Rt := ⟨_, rfl⟩
  have HBS := Lib.hid hbs
  replace S : Sep w ([boxE (b + 1 + 1 + 1 + 1), heapR h H] ++ bA) (((((W.alloc (.cells #[.pointer (some ⟨h, 0, none⟩)] 31)).alloc (.cells #[.int .i64 x.kind, .int .i64 x.n, .string x.s] 29)).alloc (.cells #[.int .i64 y.kind, .int .i64 y.n, .string y.s] 29)).alloc (.cells #[.int .i64 z.kind, .int .i64 z.n, .string z.s] 29)).alloc (.cells #[.string ⟨#[]⟩, .int .i64 0, .int .i64 0, .string ⟨#[]⟩, .bool false] 38)) := by
    rw [hbs]
    refine (show Sep w ([boxE (b + 1 + 1 + 1 + 1), boxV (b + 1 + 1 + 1) z, boxV (b + 1 + 1) y, boxV (b + 1) x, boxR b (.cells #[.pointer (some ⟨h, 0, none⟩)] 31)] ++ Rs) _ from S).perm ?_
    have e : Rs.Perm (heapR h H :: Rt) := by rw [hRt]; exact perm_pull hi
    refine (List.Perm.append_left _ e).trans ?_
    exact (show ([boxE (b + 1 + 1 + 1 + 1), boxV (b + 1 + 1 + 1) z, boxV (b + 1 + 1) y, boxV (b + 1) x, boxR b (.cells #[.pointer (some ⟨h, 0, none⟩)] 31)] ++ ([heapR h H] ++ Rt)).Perm ([boxE (b + 1 + 1 + 1 + 1), heapR h H] ++ ([boxV (b + 1 + 1 + 1) z, boxV (b + 1 + 1) y, boxV (b + 1) x, boxR b (.cells #[.pointer (some ⟨h, 0, none⟩)] 31)] ++ Rt)) from by rw [← List.append_assoc, ← List.append_assoc]; exact List.Perm.append_right Rt (by exact perm_of [0, 5, 1, 2, 3, 4] (by show (List.range' 0 6).Perm [0, 5, 1, 2, 3, 4]; decide) (by rfl)))
  clear hRt
  have C3 : Hid (∀ W (Q : List Res), Sep w (Q ++ bA) W → W.cell? ⟨b + 1 + 1 + 1, 0, none⟩ = some (.int .i64 z.kind) ∧ W.cell? ⟨b + 1 + 1 + 1, 1, none⟩ = some (.int .i64 z.n) ∧ W.cell? ⟨b + 1 + 1 + 1, 2, none⟩ = some (.string z.s)) := Lib.hid fun W Q T => by
    rw [hbs] at T
    have i0 := T.box (b := b + 1 + 1 + 1) (o := objV z) (Q.length + 0) (by rw [List.getElem?_append_right (by omega), Nat.add_sub_cancel_left]; rfl)
    exact ⟨cellAt i0 0 rfl, cellAt i0 1 rfl, cellAt i0 2 rfl⟩
  have C2 : Hid (∀ W (Q : List Res), Sep w (Q ++ bA) W → W.cell? ⟨b + 1 + 1, 0, none⟩ = some (.int .i64 y.kind) ∧ W.cell? ⟨b + 1 + 1, 1, none⟩ = some (.int .i64 y.n) ∧ W.cell? ⟨b + 1 + 1, 2, none⟩ = some (.string y.s)) := Lib.hid fun W Q T => by
    rw [hbs] at T
    have i0 := T.box (b := b + 1 + 1) (o := objV y) (Q.length + 1) (by rw [List.getElem?_append_right (by omega), Nat.add_sub_cancel_left]; rfl)
    exact ⟨cellAt i0 0 rfl, cellAt i0 1 rfl, cellAt i0 2 rfl⟩
  have C1 : Hid (∀ W (Q : List Res), Sep w (Q ++ bA) W → W.cell? ⟨b + 1, 0, none⟩ = some (.int .i64 x.kind) ∧ W.cell? ⟨b + 1, 1, none⟩ = some (.int .i64 x.n) ∧ W.cell? ⟨b + 1, 2, none⟩ = some (.string x.s)) := Lib.hid fun W Q T => by
    rw [hbs] at T
    have i0 := T.box (b := b + 1) (o := objV x) (Q.length + 2) (by rw [List.getElem?_append_right (by omega), Nat.add_sub_cancel_left]; rfl)
    exact ⟨cellAt i0 0 rfl, cellAt i0 1 rfl, cellAt i0 2 rfl⟩
  have C0 : Hid (∀ W (Q : List Res), Sep w (Q ++ bA) W → W.cell? ⟨b, 0, none⟩ = some (.pointer (some ⟨h, 0, none⟩))) := Lib.hid fun W Q T => by
    rw [hbs] at T
    have i0 := T.box (b := b) (o := .cells #[.pointer (some ⟨h, 0, none⟩)] 31) (Q.length + 3) (by rw [List.getElem?_append_right (by omega), Nat.add_sub_cancel_left]; rfl)
    exact cellAt i0 0 rfl
  clear hbs
  replace S := Lib.hid S
  go_enter Tryz.func39, Tryz.ntmps39
  go_upto_region 1 with fail
  try simp only [World.size_alloc, hb]
  clear hb
  refine regionL (E := [boxE (b + 1 + 1 + 1 + 1), heapR h H]) (base := bA) S.out ?_
  clear S
  refine quietL (hy := fun E Wx hSw => by ((have u0 := C0.out _ _ hSw); go_simp; exact ⟨rfl, hSw⟩)) (h := ?_)
  simp only [pu]
  refine quietL (hy := fun E Wx hSw => by ((refine and3 (C1.out _ _ hSw) fun u0 u1 u2 => ?_); go_simp; exact ⟨rfl, hSw⟩)) (h := ?_)
  simp only [pu]
  refine quietL (hy := fun E Wx hSw => by ((refine and3 (C2.out _ _ hSw) fun u0 u1 u2 => ?_); go_simp; exact ⟨rfl, hSw⟩)) (h := ?_)
  simp only [pu]
  iterate 2 (refine quietL ?_; simp only [pu])
  refine detL (.agg #[.string typeError, .int .i64 0, .int .i64 0, .string ⟨#[]⟩, .bool false]) [boxE (b + 1 + 1 + 1 + 1), heapR h (H)] (h1 := fun Wx hSw => by (go_simp; refine symCall ?_; rw [HBS.out] at hSw ⊢; exact chg_w3 hSw 1 (by rfl) G hN x y _ _ Qhl.out Qhd.out)) (h2 := ?_)
  simp only [pu]
  refine detL undef [boxN (b + 1 + 1 + 1 + 1) typeError, heapR h (H)] (h1 := fun Wx hSw => by (have hz := hSw.box (b := (b + 1 + 1 + 1 + 1)) (o := objE) 0 rfl; refine useZ5 hz fun z0 z1 z2 z3 z4 y0 y1 y2 y3 y4 => ?_; go_simp; exact ⟨rfl, hSw.set5 0 rfl (.string typeError) (.int .i64 0) (.int .i64 0) (.string ⟨#[]⟩) (.bool false)⟩)) (h2 := ?_)
  simp only [pu]
  intro w1 S
  replace S := Lib.hid S
  replace S := S.out
  refine useR5 (S.box (b := b + 1 + 1 + 1 + 1) (o := objN typeError) 0 rfl) fun r0 r1 r2 r3 r4 => ?_
  replace S := Lib.hid S
  go_wp2
  refine bodyPost_ret (v := .agg #[.string typeError, .int .i64 0, .int .i64 0, .string ⟨#[]⟩, .bool false]) (by simp [results, Tryz.results39, go_sem, r0, r1, r2, r3, r4]) rfl ⟨rfl, ?_⟩
  replace S := S.out
  rw [HBS.out] at S
  exact HF.out _ _ (S.sub (Qs := heapR h (H) :: Rt) (.cons _ (.cons_cons _ (.cons _ (.cons _ (.cons _ (.cons _ (List.Sublist.refl _))))))))
set_option maxRecDepth 100000 in
set_option maxHeartbeats 12800000 in
theorem si_set (S : Sep w Rs W) (i : Nat) (hi : Rs[i]? = some (heapR h H)) {N : Nat} (G : H.Good N) (hN : N ≤ 4000000) (x y z : V) (hl : H.kind x = 1) (hy : y.kind = 2) (hp : inP (H.items x).length y.n = true) : Calls Tryz.prog 39 #[.pointer (some ⟨h, 0, none⟩), .agg #[.int .i64 x.kind, .int .i64 x.n, .string x.s], .agg #[.int .i64 y.kind, .int .i64 y.n, .string y.s], .agg #[.int .i64 z.kind, .int .i64 z.n, .string z.s]] W fun e W' => e = .returned (excZ) ∧ Sep w (Rs.set i (heapR h (H.setAt x (placeP (H.items x).length y.n) z))) W' := by
  have Qhl := Lib.hid hl
  have Qhp := Lib.hid hp
  have Qhy := Lib.hid hy
  clear hy hp hl
  obtain ⟨b, hb⟩ : ∃ gx_, (W.heap.size) = gx_ := ⟨_, rfl⟩
  replace S := (((((S.alloc (.cells #[.pointer (some ⟨h, 0, none⟩)] 31)).alloc (.cells #[.int .i64 x.kind, .int .i64 x.n, .string x.s] 29)).alloc (.cells #[.int .i64 y.kind, .int .i64 y.n, .string y.s] 29)).alloc (.cells #[.int .i64 z.kind, .int .i64 z.n, .string z.s] 29)).alloc (.cells #[.string ⟨#[]⟩, .int .i64 0, .int .i64 0, .string ⟨#[]⟩, .bool false] 38))
  simp only [World.size_alloc, hb] at S
  replace S : Sep w (boxE (b + 1 + 1 + 1 + 1) :: boxV (b + 1 + 1 + 1) z :: boxV (b + 1 + 1) y :: boxV (b + 1) x :: boxR b (.cells #[.pointer (some ⟨h, 0, none⟩)] 31) :: Rs) (((((W.alloc (.cells #[.pointer (some ⟨h, 0, none⟩)] 31)).alloc (.cells #[.int .i64 x.kind, .int .i64 x.n, .string x.s] 29)).alloc (.cells #[.int .i64 y.kind, .int .i64 y.n, .string y.s] 29)).alloc (.cells #[.int .i64 z.kind, .int .i64 z.n, .string z.s] 29)).alloc (.cells #[.string ⟨#[]⟩, .int .i64 0, .int .i64 0, .string ⟨#[]⟩, .bool false] 38)) := S
  obtain ⟨Rt, hRt⟩ : ∃ l, l = Rs.eraseIdx i := ⟨_, rfl⟩
  have HF : Hid (∀ H' W', Sep w (heapR h H' :: Rt) W' → Sep w (Rs.set i (heapR h H')) W') := Lib.hid fun H' W' T => by rw [hRt] at T; exact T.perm (perm_push hi).symm
  obtain ⟨bA, hbs⟩ : ∃ l, l = boxV (b + 1 + 1 + 1) z :: boxV (b + 1 + 1) y :: boxV (b + 1) x :: boxR b (.cells #[.pointer (some ⟨h, 0, none⟩)] 31) :: Rt := ⟨_, rfl⟩
  have HBS := Lib.hid hbs
  replace S : Sep w ([boxE (b + 1 + 1 + 1 + 1), heapR h H] ++ bA) (((((W.alloc (.cells #[.pointer (some ⟨h, 0, none⟩)] 31)).alloc (.cells #[.int .i64 x.kind, .int .i64 x.n, .string x.s] 29)).alloc (.cells #[.int .i64 y.kind, .int .i64 y.n, .string y.s] 29)).alloc (.cells #[.int .i64 z.kind, .int .i64 z.n, .string z.s] 29)).alloc (.cells #[.string ⟨#[]⟩, .int .i64 0, .int .i64 0, .string ⟨#[]⟩, .bool false] 38)) := by
    rw [hbs]
    refine (show Sep w ([boxE (b + 1 + 1 + 1 + 1), boxV (b + 1 + 1 + 1) z, boxV (b + 1 + 1) y, boxV (b + 1) x, boxR b (.cells #[.pointer (some ⟨h, 0, none⟩)] 31)] ++ Rs) _ from S).perm ?_
    have e : Rs.Perm (heapR h H :: Rt) := by rw [hRt]; exact perm_pull hi
    refine (List.Perm.append_left _ e).trans ?_
    exact (show ([boxE (b + 1 + 1 + 1 + 1), boxV (b + 1 + 1 + 1) z, boxV (b + 1 + 1) y, boxV (b + 1) x, boxR b (.cells #[.pointer (some ⟨h, 0, none⟩)] 31)] ++ ([heapR h H] ++ Rt)).Perm ([boxE (b + 1 + 1 + 1 + 1), heapR h H] ++ ([boxV (b + 1 + 1 + 1) z, boxV (b + 1 + 1) y, boxV (b + 1) x, boxR b (.cells #[.pointer (some ⟨h, 0, none⟩)] 31)] ++ Rt)) from by rw [← List.append_assoc, ← List.append_assoc]; exact List.Perm.append_right Rt (by exact perm_of [0, 5, 1, 2, 3, 4] (by show (List.range' 0 6).Perm [0, 5, 1, 2, 3, 4]; decide) (by rfl)))
  clear hRt
  have C3 : Hid (∀ W (Q : List Res), Sep w (Q ++ bA) W → W.cell? ⟨b + 1 + 1 + 1, 0, none⟩ = some (.int .i64 z.kind) ∧ W.cell? ⟨b + 1 + 1 + 1, 1, none⟩ = some (.int .i64 z.n) ∧ W.cell? ⟨b + 1 + 1 + 1, 2, none⟩ = some (.string z.s)) := Lib.hid fun W Q T => by
    rw [hbs] at T
    have i0 := T.box (b := b + 1 + 1 + 1) (o := objV z) (Q.length + 0) (by rw [List.getElem?_append_right (by omega), Nat.add_sub_cancel_left]; rfl)
    exact ⟨cellAt i0 0 rfl, cellAt i0 1 rfl, cellAt i0 2 rfl⟩
  have C2 : Hid (∀ W (Q : List Res), Sep w (Q ++ bA) W → W.cell? ⟨b + 1 + 1, 0, none⟩ = some (.int .i64 y.kind) ∧ W.cell? ⟨b + 1 + 1, 1, none⟩ = some (.int .i64 y.n) ∧ W.cell? ⟨b + 1 + 1, 2, none⟩ = some (.string y.s)) := Lib.hid fun W Q T => by
    rw [hbs] at T
    have i0 := T.box (b := b + 1 + 1) (o := objV y) (Q.length + 1) (by rw [List.getElem?_append_right (by omega), Nat.add_sub_cancel_left]; rfl)
    exact ⟨cellAt i0 0 rfl, cellAt i0 1 rfl, cellAt i0 2 rfl⟩
  have C1 : Hid (∀ W (Q : List Res), Sep w (Q ++ bA) W → W.cell? ⟨b + 1, 0, none⟩ = some (.int .i64 x.kind) ∧ W.cell? ⟨b + 1, 1, none⟩ = some (.int .i64 x.n) ∧ W.cell? ⟨b + 1, 2, none⟩ = some (.string x.s)) := Lib.hid fun W Q T => by
    rw [hbs] at T
    have i0 := T.box (b := b + 1) (o := objV x) (Q.length + 2) (by rw [List.getElem?_append_right (by omega), Nat.add_sub_cancel_left]; rfl)
    exact ⟨cellAt i0 0 rfl, cellAt i0 1 rfl, cellAt i0 2 rfl⟩
  have C0 : Hid (∀ W (Q : List Res), Sep w (Q ++ bA) W → W.cell? ⟨b, 0, none⟩ = some (.pointer (some ⟨h, 0, none⟩))) := Lib.hid fun W Q T => by
    rw [hbs] at T
    have i0 := T.box (b := b) (o := .cells #[.pointer (some ⟨h, 0, none⟩)] 31) (Q.length + 3) (by rw [List.getElem?_append_right (by omega), Nat.add_sub_cancel_left]; rfl)
    exact cellAt i0 0 rfl
  clear hbs
  replace S := Lib.hid S
  go_enter Tryz.func39, Tryz.ntmps39
  go_upto_region 1 with fail
  try simp only [World.size_alloc, hb]
  clear hb
  refine regionL (E := [boxE (b + 1 + 1 + 1 + 1), heapR h H]) (base := bA) S.out ?_
  clear S
  refine quietL (hy := fun E Wx hSw => by ((have u0 := C0.out _ _ hSw); go_simp; exact ⟨rfl, hSw⟩)) (h := ?_)
  simp only [pu]
  refine quietL (hy := fun E Wx hSw => by ((refine and3 (C1.out _ _ hSw) fun u0 u1 u2 => ?_); go_simp; exact ⟨rfl, hSw⟩)) (h := ?_)
  simp only [pu]
  refine quietL (hy := fun E Wx hSw => by ((refine and3 (C2.out _ _ hSw) fun u0 u1 u2 => ?_); go_simp; exact ⟨rfl, hSw⟩)) (h := ?_)
  simp only [pu]
  iterate 2 (refine quietL ?_; simp only [pu])
  refine detL (.agg #[.string ⟨#[]⟩, .int .i64 0, .int .i64 0, .string ⟨#[]⟩, .bool false]) [boxE (b + 1 + 1 + 1 + 1), heapR h (H.setAt x (placeP (H.items x).length y.n) z)] (h1 := fun Wx hSw => by (go_simp; refine symCall ?_; rw [HBS.out] at hSw ⊢; exact chg_set hSw 1 (by rfl) G hN x y z (i4 := 5) (p4 := b) (i5 := 4) (p5 := b + 1) (i7 := 2) (p7 := b + 1 + 1 + 1) rfl rfl rfl _ Qhl.out Qhy.out Qhp.out)) (h2 := ?_)
  simp only [pu]
  refine detL undef [boxE (b + 1 + 1 + 1 + 1), heapR h (H.setAt x (placeP (H.items x).length y.n) z)] (h1 := fun Wx hSw => by (have hz := hSw.box (b := (b + 1 + 1 + 1 + 1)) (o := objE) 0 rfl; refine useZ5 hz fun z0 z1 z2 z3 z4 y0 y1 y2 y3 y4 => ?_; go_simp; exact ⟨rfl, hSw.set5 0 rfl (.string ⟨#[]⟩) (.int .i64 0) (.int .i64 0) (.string ⟨#[]⟩) (.bool false)⟩)) (h2 := ?_)
  simp only [pu]
  intro w1 S
  replace S := Lib.hid S
  replace S := S.out
  refine useR5 (S.box (b := b + 1 + 1 + 1 + 1) (o := objE) 0 rfl) fun r0 r1 r2 r3 r4 => ?_
  replace S := Lib.hid S
  go_wp2
  refine bodyPost_ret (v := .agg #[.string ⟨#[]⟩, .int .i64 0, .int .i64 0, .string ⟨#[]⟩, .bool false]) (by simp [results, Tryz.results39, go_sem, r0, r1, r2, r3, r4]) rfl ⟨rfl, ?_⟩
  replace S := S.out
  rw [HBS.out] at S
  exact HF.out _ _ (S.sub (Qs := heapR h (H.setAt x (placeP (H.items x).length y.n) z) :: Rt) (.cons _ (.cons_cons _ (.cons _ (.cons _ (.cons _ (.cons _ (List.Sublist.refl _))))))))
set_option maxRecDepth 100000 in
set_option maxHeartbeats 12800000 in
theorem di_index (S : Sep w Rs W) (i : Nat) (hi : Rs[i]? = some (heapR h H)) {N : Nat} (G : H.Good N) (hN : N ≤ 4000000) (x y : V) (hl : H.kind x = 1) (hy : y.kind = 2) (hp : inP (H.items x).length y.n = false) : Calls Tryz.prog 40 #[.pointer (some ⟨h, 0, none⟩), .agg #[.int .i64 x.kind, .int .i64 x.n, .string x.s], .agg #[.int .i64 y.kind, .int .i64 y.n, .string y.s]] W fun e W' => e = .returned (excN indexError) ∧ Sep w (Rs.set i (heapR h (H))) W' := by
  have Qhl := Lib.hid hl
  have Qhp := Lib.hid hp
  have Qhy := Lib.hid hy
  clear hy hp hl
  obtain ⟨b, hb⟩ : ∃ gx_, (W.heap.size) = gx_ := ⟨_, rfl⟩
  replace S := ((((S.alloc (.cells #[.pointer (some ⟨h, 0, none⟩)] 31)).alloc (.cells #[.int .i64 x.kind, .int .i64 x.n, .string x.s] 29)).alloc (.cells #[.int .i64 y.kind, .int .i64 y.n, .string y.s] 29)).alloc (.cells #[.string ⟨#[]⟩, .int .i64 0, .int .i64 0, .string ⟨#[]⟩, .bool false] 38))
  simp only [World.size_alloc, hb] at S
  replace S : Sep w (boxE (b + 1 + 1 + 1) :: boxV (b + 1 + 1) y :: boxV (b + 1) x :: boxR b (.cells #[.pointer (some ⟨h, 0, none⟩)] 31) :: Rs) ((((W.alloc (.cells #[.pointer (some ⟨h, 0, none⟩)] 31)).alloc (.cells #[.int .i64 x.kind, .int .i64 x.n, .string x.s] 29)).alloc (.cells #[.int .i64 y.kind, .int .i64 y.n, .string y.s] 29)).alloc (.cells #[.string ⟨#[]⟩, .int .i64 0, .int .i64 0, .string ⟨#[]⟩, .bool false] 38)) := S
  obtain ⟨Rt, hRt⟩ : ∃ l, l = Rs.eraseIdx i := ⟨_, rfl⟩
  have HF : Hid (∀ H' W', Sep w (heapR h H' :: Rt) W' → Sep w (Rs.set i (heapR h H')) W') := Lib.hid fun H' W' T => by rw [hRt] at T; exact T.perm (perm_push hi).symm
  obtain ⟨bA, hbs⟩ : ∃ l, l = boxV (b + 1 + 1) y :: boxV (b + 1) x :: boxR b (.cells #[.pointer (some ⟨h, 0, none⟩)] 31) :: Rt := ⟨_, rfl⟩
  have HBS := Lib.hid hbs
  replace S : Sep w ([boxE (b + 1 + 1 + 1), heapR h H] ++ bA) ((((W.alloc (.cells #[.pointer (some ⟨h, 0, none⟩)] 31)).alloc (.cells #[.int .i64 x.kind, .int .i64 x.n, .string x.s] 29)).alloc (.cells #[.int .i64 y.kind, .int .i64 y.n, .string y.s] 29)).alloc (.cells #[.string ⟨#[]⟩, .int .i64 0, .int .i64 0, .string ⟨#[]⟩, .bool false] 38)) := by
    rw [hbs]
    refine (show Sep w ([boxE (b + 1 + 1 + 1), boxV (b + 1 + 1) y, boxV (b + 1) x, boxR b (.cells #[.pointer (some ⟨h, 0, none⟩)] 31)] ++ Rs) _ from S).perm ?_
    have e : Rs.Perm (heapR h H :: Rt) := by rw [hRt]; exact perm_pull hi
    refine (List.Perm.append_left _ e).trans ?_
    exact (show ([boxE (b + 1 + 1 + 1), boxV (b + 1 + 1) y, boxV (b + 1) x, boxR b (.cells #[.pointer (some ⟨h, 0, none⟩)] 31)] ++ ([heapR h H] ++ Rt)).Perm ([boxE (b + 1 + 1 + 1), heapR h H] ++ ([boxV (b + 1 + 1) y, boxV (b + 1) x, boxR b (.cells #[.pointer (some ⟨h, 0, none⟩)] 31)] ++ Rt)) from by rw [← List.append_assoc, ← List.append_assoc]; exact List.Perm.append_right Rt (by exact perm_of [0, 4, 1, 2, 3] (by show (List.range' 0 5).Perm [0, 4, 1, 2, 3]; decide) (by rfl)))
  clear hRt
  have C2 : Hid (∀ W (Q : List Res), Sep w (Q ++ bA) W → W.cell? ⟨b + 1 + 1, 0, none⟩ = some (.int .i64 y.kind) ∧ W.cell? ⟨b + 1 + 1, 1, none⟩ = some (.int .i64 y.n) ∧ W.cell? ⟨b + 1 + 1, 2, none⟩ = some (.string y.s)) := Lib.hid fun W Q T => by
    rw [hbs] at T
    have i0 := T.box (b := b + 1 + 1) (o := objV y) (Q.length + 0) (by rw [List.getElem?_append_right (by omega), Nat.add_sub_cancel_left]; rfl)
    exact ⟨cellAt i0 0 rfl, cellAt i0 1 rfl, cellAt i0 2 rfl⟩
  have C1 : Hid (∀ W (Q : List Res), Sep w (Q ++ bA) W → W.cell? ⟨b + 1, 0, none⟩ = some (.int .i64 x.kind) ∧ W.cell? ⟨b + 1, 1, none⟩ = some (.int .i64 x.n) ∧ W.cell? ⟨b + 1, 2, none⟩ = some (.string x.s)) := Lib.hid fun W Q T => by
    rw [hbs] at T
    have i0 := T.box (b := b + 1) (o := objV x) (Q.length + 1) (by rw [List.getElem?_append_right (by omega), Nat.add_sub_cancel_left]; rfl)
    exact ⟨cellAt i0 0 rfl, cellAt i0 1 rfl, cellAt i0 2 rfl⟩
  have C0 : Hid (∀ W (Q : List Res), Sep w (Q ++ bA) W → W.cell? ⟨b, 0, none⟩ = some (.pointer (some ⟨h, 0, none⟩))) := Lib.hid fun W Q T => by
    rw [hbs] at T
    have i0 := T.box (b := b) (o := .cells #[.pointer (some ⟨h, 0, none⟩)] 31) (Q.length + 2) (by rw [List.getElem?_append_right (by omega), Nat.add_sub_cancel_left]; rfl)
    exact cellAt i0 0 rfl
  clear hbs
  replace S := Lib.hid S
  go_enter Tryz.func40, Tryz.ntmps40
  go_upto_region 1 with fail
  try simp only [World.size_alloc, hb]
  clear hb
  refine regionL (E := [boxE (b + 1 + 1 + 1), heapR h H]) (base := bA) S.out ?_
  clear S
  refine quietL (hy := fun E Wx hSw => by ((have u0 := C0.out _ _ hSw); go_simp; exact ⟨rfl, hSw⟩)) (h := ?_)
  simp only [pu]
  refine quietL (hy := fun E Wx hSw => by ((refine and3 (C1.out _ _ hSw) fun u0 u1 u2 => ?_); go_simp; exact ⟨rfl, hSw⟩)) (h := ?_)
  simp only [pu]
  refine quietL (hy := fun E Wx hSw => by ((refine and3 (C2.out _ _ hSw) fun u0 u1 u2 => ?_); go_simp; exact ⟨rfl, hSw⟩)) (h := ?_)
  simp only [pu]
  iterate 2 (refine quietL ?_; simp only [pu])
  refine detL (.agg #[.string indexError, .int .i64 0, .int .i64 0, .string ⟨#[]⟩, .bool false]) [boxE (b + 1 + 1 + 1), heapR h (H)] (h1 := fun Wx hSw => by (go_simp; refine symCall ?_; rw [HBS.out] at hSw ⊢; exact chg_index hSw 1 (by rfl) G hN x y _ _ Qhl.out Qhy.out Qhp.out)) (h2 := ?_)
  simp only [pu]
  refine detL undef [boxN (b + 1 + 1 + 1) indexError, heapR h (H)] (h1 := fun Wx hSw => by (have hz := hSw.box (b := (b + 1 + 1 + 1)) (o := objE) 0 rfl; refine useZ5 hz fun z0 z1 z2 z3 z4 y0 y1 y2 y3 y4 => ?_; go_simp; exact ⟨rfl, hSw.set5 0 rfl (.string indexError) (.int .i64 0) (.int .i64 0) (.string ⟨#[]⟩) (.bool false)⟩)) (h2 := ?_)
  simp only [pu]
  intro w1 S
  replace S := Lib.hid S
  replace S := S.out
  refine useR5 (S.box (b := b + 1 + 1 + 1) (o := objN indexError) 0 rfl) fun r0 r1 r2 r3 r4 => ?_
  replace S := Lib.hid S
  go_wp2
  refine bodyPost_ret (v := .agg #[.string indexError, .int .i64 0, .int .i64 0, .string ⟨#[]⟩, .bool false]) (by simp [results, Tryz.results40, go_sem, r0, r1, r2, r3, r4]) rfl ⟨rfl, ?_⟩
  replace S := S.out
  rw [HBS.out] at S
  exact HF.out _ _ (S.sub (Qs := heapR h (H) :: Rt) (.cons _ (.cons_cons _ (.cons _ (.cons _ (.cons _ (List.Sublist.refl _)))))))
set_option maxRecDepth 100000 in
set_option maxHeartbeats 12800000 in
theorem di_w3 (S : Sep w Rs W) (i : Nat) (hi : Rs[i]? = some (heapR h H)) {N : Nat} (G : H.Good N) (hN : N ≤ 4000000) (x y : V) (hl : ¬ H.kind x = 1) (hd : ¬ H.kind x = 3) : Calls Tryz.prog 40 #[.pointer (some ⟨h, 0, none⟩), .agg #[.int .i64 x.kind, .int .i64 x.n, .string x.s], .agg #[.int .i64 y.kind, .int .i64 y.n, .string y.s]] W fun e W' => e = .returned (excN typeError) ∧ Sep w (Rs.set i (heapR h (H))) W' := by
  have Qhd := Lib.hid hd
  have Qhl := Lib.hid hl
  clear hl hd
  obtain ⟨b, hb⟩ : ∃ gx_, (W.heap.size) = gx_ := ⟨_, rfl⟩
  replace S := ((((S.alloc (.cells #[.pointer (some ⟨h, 0, none⟩)] 31)).alloc (.cells #[.int .i64 x.kind, .int .i64 x.n, .string x.s] 29)).alloc (.cells #[.int .i64 y.kind, .int .i64 y.n, .string y.s] 29)).alloc (.cells #[.string ⟨#[]⟩, .int .i64 0, .int .i64 0, .string ⟨#[]⟩, .bool false] 38))
  simp only [World.size_alloc, hb] at S
  replace S : Sep w (boxE (b + 1 + 1 + 1) :: boxV (b + 1 + 1) y :: boxV (b + 1) x :: boxR b (.cells #[.pointer (some ⟨h, 0, none⟩)] 31) :: Rs) ((((W.alloc (.cells #[.pointer (some ⟨h, 0, none⟩)] 31)).alloc (.cells #[.int .i64 x.kind, .int .i64 x.n, .string x.s] 29)).alloc (.cells #[.int .i64 y.kind, .int .i64 y.n, .string y.s] 29)).alloc (.cells #[.string ⟨#[]⟩, .int .i64 0, .int .i64 0, .string ⟨#[]⟩, .bool false] 38)) := S
  obtain ⟨Rt, hRt⟩ : ∃ l, l = Rs.eraseIdx i := ⟨_, rfl⟩
  have HF : Hid (∀ H' W', Sep w (heapR h H' :: Rt) W' → Sep w (Rs.set i (heapR h H')) W') := Lib.hid fun H' W' T => by rw [hRt] at T; exact T.perm (perm_push hi).symm
  obtain ⟨bA, hbs⟩ : ∃ l, l = boxV (b + 1 + 1) y :: boxV (b + 1) x :: boxR b (.cells #[.pointer (some ⟨h, 0, none⟩)] 31) :: Rt := ⟨_, rfl⟩
  have HBS := Lib.hid hbs
  replace S : Sep w ([boxE (b + 1 + 1 + 1), heapR h H] ++ bA) ((((W.alloc (.cells #[.pointer (some ⟨h, 0, none⟩)] 31)).alloc (.cells #[.int .i64 x.kind, .int .i64 x.n, .string x.s] 29)).alloc (.cells #[.int .i64 y.kind, .int .i64 y.n, .string y.s] 29)).alloc (.cells #[.string ⟨#[]⟩, .int .i64 0, .int .i64 0, .string ⟨#[]⟩, .bool false] 38)) := by
    rw [hbs]
    refine (show Sep w ([boxE (b + 1 + 1 + 1), boxV (b + 1 + 1) y, boxV (b + 1) x, boxR b (.cells #[.pointer (some ⟨h, 0, none⟩)] 31)] ++ Rs) _ from S).perm ?_
    have e : Rs.Perm (heapR h H :: Rt) := by rw [hRt]; exact perm_pull hi
    refine (List.Perm.append_left _ e).trans ?_
    exact (show ([boxE (b + 1 + 1 + 1), boxV (b + 1 + 1) y, boxV (b + 1) x, boxR b (.cells #[.pointer (some ⟨h, 0, none⟩)] 31)] ++ ([heapR h H] ++ Rt)).Perm ([boxE (b + 1 + 1 + 1), heapR h H] ++ ([boxV (b + 1 + 1) y, boxV (b + 1) x, boxR b (.cells #[.pointer (some ⟨h, 0, none⟩)] 31)] ++ Rt)) from by rw [← List.append_assoc, ← List.append_assoc]; exact List.Perm.append_right Rt (by exact perm_of [0, 4, 1, 2, 3] (by show (List.range' 0 5).Perm [0, 4, 1, 2, 3]; decide) (by rfl)))
  clear hRt
  have C2 : Hid (∀ W (Q : List Res), Sep w (Q ++ bA) W → W.cell? ⟨b + 1 + 1, 0, none⟩ = some (.int .i64 y.kind) ∧ W.cell? ⟨b + 1 + 1, 1, none⟩ = some (.int .i64 y.n) ∧ W.cell? ⟨b + 1 + 1, 2, none⟩ = some (.string y.s)) := Lib.hid fun W Q T => by
    rw [hbs] at T
    have i0 := T.box (b := b + 1 + 1) (o := objV y) (Q.length + 0) (by rw [List.getElem?_append_right (by omega), Nat.add_sub_cancel_left]; rfl)
    exact ⟨cellAt i0 0 rfl, cellAt i0 1 rfl, cellAt i0 2 rfl⟩
  have C1 : Hid (∀ W (Q : List Res), Sep w (Q ++ bA) W → W.cell? ⟨b + 1, 0, none⟩ = some (.int .i64 x.kind) ∧ W.cell? ⟨b + 1, 1, none⟩ = some (.int .i64 x.n) ∧ W.cell? ⟨b + 1, 2, none⟩ = some (.string x.s)) := Lib.hid fun W Q T => by
    rw [hbs] at T
    have i0 := T.box (b := b + 1) (o := objV x) (Q.length + 1) (by rw [List.getElem?_append_right (by omega), Nat.add_sub_cancel_left]; rfl)
    exact ⟨cellAt i0 0 rfl, cellAt i0 1 rfl, cellAt i0 2 rfl⟩
  have C0 : Hid (∀ W (Q : List Res), Sep w (Q ++ bA) W → W.cell? ⟨b, 0, none⟩ = some (.pointer (some ⟨h, 0, none⟩))) := Lib.hid fun W Q T => by
    rw [hbs] at T
    have i0 := T.box (b := b) (o := .cells #[.pointer (some ⟨h, 0, none⟩)] 31) (Q.length + 2) (by rw [List.getElem?_append_right (by omega), Nat.add_sub_cancel_left]; rfl)
    exact cellAt i0 0 rfl
  clear hbs
  replace S := Lib.hid S
  go_enter Tryz.func40, Tryz.ntmps40
  go_upto_region 1 with fail
  try simp only [World.size_alloc, hb]
  clear hb
  refine regionL (E := [boxE (b + 1 + 1 + 1), heapR h H]) (base := bA) S.out ?_
  clear S
  refine quietL (hy := fun E Wx hSw => by ((have u0 := C0.out _ _ hSw); go_simp; exact ⟨rfl, hSw⟩)) (h := ?_)
  simp only [pu]
  refine quietL (hy := fun E Wx hSw => by ((refine and3 (C1.out _ _ hSw) fun u0 u1 u2 => ?_); go_simp; exact ⟨rfl, hSw⟩)) (h := ?_)
  simp only [pu]
  refine quietL (hy := fun E Wx hSw => by ((refine and3 (C2.out _ _ hSw) fun u0 u1 u2 => ?_); go_simp; exact ⟨rfl, hSw⟩)) (h := ?_)
  simp only [pu]
  iterate 2 (refine quietL ?_; simp only [pu])
  refine detL (.agg #[.string typeError, .int .i64 0, .int .i64 0, .string ⟨#[]⟩, .bool false]) [boxE (b + 1 + 1 + 1), heapR h (H)] (h1 := fun Wx hSw => by (go_simp; refine symCall ?_; rw [HBS.out] at hSw ⊢; exact chg_w3 hSw 1 (by rfl) G hN x y _ _ Qhl.out Qhd.out)) (h2 := ?_)
  simp only [pu]
  refine detL undef [boxN (b + 1 + 1 + 1) typeError, heapR h (H)] (h1 := fun Wx hSw => by (have hz := hSw.box (b := (b + 1 + 1 + 1)) (o := objE) 0 rfl; refine useZ5 hz fun z0 z1 z2 z3 z4 y0 y1 y2 y3 y4 => ?_; go_simp; exact ⟨rfl, hSw.set5 0 rfl (.string typeError) (.int .i64 0) (.int .i64 0) (.string ⟨#[]⟩) (.bool false)⟩)) (h2 := ?_)
  simp only [pu]
  intro w1 S
  replace S := Lib.hid S
  replace S := S.out
  refine useR5 (S.box (b := b + 1 + 1 + 1) (o := objN typeError) 0 rfl) fun r0 r1 r2 r3 r4 => ?_
  replace S := Lib.hid S
  go_wp2
  refine bodyPost_ret (v := .agg #[.string typeError, .int .i64 0, .int .i64 0, .string ⟨#[]⟩, .bool false]) (by simp [results, Tryz.results40, go_sem, r0, r1, r2, r3, r4]) rfl ⟨rfl, ?_⟩
  replace S := S.out
  rw [HBS.out] at S
  exact HF.out _ _ (S.sub (Qs := heapR h (H) :: Rt) (.cons _ (.cons_cons _ (.cons _ (.cons _ (.cons _ (List.Sublist.refl _)))))))
set_option maxRecDepth 100000 in
set_option maxHeartbeats 12800000 in
theorem di_del (S : Sep w Rs W) (i : Nat) (hi : Rs[i]? = some (heapR h H)) {N : Nat} (G : H.Good N) (hN : N ≤ 4000000) (x y : V) (hl : H.kind x = 1) (hy : y.kind = 2) (hp : inP (H.items x).length y.n = true) : Calls Tryz.prog 40 #[.pointer (some ⟨h, 0, none⟩), .agg #[.int .i64 x.kind, .int .i64 x.n, .string x.s], .agg #[.int .i64 y.kind, .int .i64 y.n, .string y.s]] W fun e W' => e = .returned (excZ) ∧ Sep w (Rs.set i (heapR h (H.replace x (placeP (H.items x).length y.n) (placeP (H.items x).length y.n + 1) []))) W' := by
  have Qhl := Lib.hid hl
  have Qhp := Lib.hid hp
  have Qhy := Lib.hid hy
  clear hy hp hl
  obtain ⟨b, hb⟩ : ∃ gx_, (W.heap.size) = gx_ := ⟨_, rfl⟩
  replace S := ((((S.alloc (.cells #[.pointer (some ⟨h, 0, none⟩)] 31)).alloc (.cells #[.int .i64 x.kind, .int .i64 x.n, .string x.s] 29)).alloc (.cells #[.int .i64 y.kind, .int .i64 y.n, .string y.s] 29)).alloc (.cells #[.string ⟨#[]⟩, .int .i64 0, .int .i64 0, .string ⟨#[]⟩, .bool false] 38))
  simp only [World.size_alloc, hb] at S
  replace S : Sep w (boxE (b + 1 + 1 + 1) :: boxV (b + 1 + 1) y :: boxV (b + 1) x :: boxR b (.cells #[.pointer (some ⟨h, 0, none⟩)] 31) :: Rs) ((((W.alloc (.cells #[.pointer (some ⟨h, 0, none⟩)] 31)).alloc (.cells #[.int .i64 x.kind, .int .i64 x.n, .string x.s] 29)).alloc (.cells #[.int .i64 y.kind, .int .i64 y.n, .string y.s] 29)).alloc (.cells #[.string ⟨#[]⟩, .int .i64 0, .int .i64 0, .string ⟨#[]⟩, .bool false] 38)) := S
  obtain ⟨Rt, hRt⟩ : ∃ l, l = Rs.eraseIdx i := ⟨_, rfl⟩
  have HF : Hid (∀ H' W', Sep w (heapR h H' :: Rt) W' → Sep w (Rs.set i (heapR h H')) W') := Lib.hid fun H' W' T => by rw [hRt] at T; exact T.perm (perm_push hi).symm
  obtain ⟨bA, hbs⟩ : ∃ l, l = boxV (b + 1 + 1) y :: boxV (b + 1) x :: boxR b (.cells #[.pointer (some ⟨h, 0, none⟩)] 31) :: Rt := ⟨_, rfl⟩
  have HBS := Lib.hid hbs
  replace S : Sep w ([boxE (b + 1 + 1 + 1), heapR h H] ++ bA) ((((W.alloc (.cells #[.pointer (some ⟨h, 0, none⟩)] 31)).alloc (.cells #[.int .i64 x.kind, .int .i64 x.n, .string x.s] 29)).alloc (.cells #[.int .i64 y.kind, .int .i64 y.n, .string y.s] 29)).alloc (.cells #[.string ⟨#[]⟩, .int .i64 0, .int .i64 0, .string ⟨#[]⟩, .bool false] 38)) := by
    rw [hbs]
    refine (show Sep w ([boxE (b + 1 + 1 + 1), boxV (b + 1 + 1) y, boxV (b + 1) x, boxR b (.cells #[.pointer (some ⟨h, 0, none⟩)] 31)] ++ Rs) _ from S).perm ?_
    have e : Rs.Perm (heapR h H :: Rt) := by rw [hRt]; exact perm_pull hi
    refine (List.Perm.append_left _ e).trans ?_
    exact (show ([boxE (b + 1 + 1 + 1), boxV (b + 1 + 1) y, boxV (b + 1) x, boxR b (.cells #[.pointer (some ⟨h, 0, none⟩)] 31)] ++ ([heapR h H] ++ Rt)).Perm ([boxE (b + 1 + 1 + 1), heapR h H] ++ ([boxV (b + 1 + 1) y, boxV (b + 1) x, boxR b (.cells #[.pointer (some ⟨h, 0, none⟩)] 31)] ++ Rt)) from by rw [← List.append_assoc, ← List.append_assoc]; exact List.Perm.append_right Rt (by exact perm_of [0, 4, 1, 2, 3] (by show (List.range' 0 5).Perm [0, 4, 1, 2, 3]; decide) (by rfl)))
  clear hRt
  have C2 : Hid (∀ W (Q : List Res), Sep w (Q ++ bA) W → W.cell? ⟨b + 1 + 1, 0, none⟩ = some (.int .i64 y.kind) ∧ W.cell? ⟨b + 1 + 1, 1, none⟩ = some (.int .i64 y.n) ∧ W.cell? ⟨b + 1 + 1, 2, none⟩ = some (.string y.s)) := Lib.hid fun W Q T => by
    rw [hbs] at T
    have i0 := T.box (b := b + 1 + 1) (o := objV y) (Q.length + 0) (by rw [List.getElem?_append_right (by omega), Nat.add_sub_cancel_left]; rfl)
    exact ⟨cellAt i0 0 rfl, cellAt i0 1 rfl, cellAt i0 2 rfl⟩
  have C1 : Hid (∀ W (Q : List Res), Sep w (Q ++ bA) W → W.cell? ⟨b + 1, 0, none⟩ = some (.int .i64 x.kind) ∧ W.cell? ⟨b + 1, 1, none⟩ = some (.int .i64 x.n) ∧ W.cell? ⟨b + 1, 2, none⟩ = some (.string x.s)) := Lib.hid fun W Q T => by
    rw [hbs] at T
    have i0 := T.box (b := b + 1) (o := objV x) (Q.length + 1) (by rw [List.getElem?_append_right (by omega), Nat.add_sub_cancel_left]; rfl)
    exact ⟨cellAt i0 0 rfl, cellAt i0 1 rfl, cellAt i0 2 rfl⟩
  have C0 : Hid (∀ W (Q : List Res), Sep w (Q ++ bA) W → W.cell? ⟨b, 0, none⟩ = some (.pointer (some ⟨h, 0, none⟩))) := Lib.hid fun W Q T => by
    rw [hbs] at T
    have i0 := T.box (b := b) (o := .cells #[.pointer (some ⟨h, 0, none⟩)] 31) (Q.length + 2) (by rw [List.getElem?_append_right (by omega), Nat.add_sub_cancel_left]; rfl)
    exact cellAt i0 0 rfl
  clear hbs
  replace S := Lib.hid S
  go_enter Tryz.func40, Tryz.ntmps40
  go_upto_region 1 with fail
  try simp only [World.size_alloc, hb]
  clear hb
  refine regionL (E := [boxE (b + 1 + 1 + 1), heapR h H]) (base := bA) S.out ?_
  clear S
  refine quietL (hy := fun E Wx hSw => by ((have u0 := C0.out _ _ hSw); go_simp; exact ⟨rfl, hSw⟩)) (h := ?_)
  simp only [pu]
  refine quietL (hy := fun E Wx hSw => by ((refine and3 (C1.out _ _ hSw) fun u0 u1 u2 => ?_); go_simp; exact ⟨rfl, hSw⟩)) (h := ?_)
  simp only [pu]
  refine quietL (hy := fun E Wx hSw => by ((refine and3 (C2.out _ _ hSw) fun u0 u1 u2 => ?_); go_simp; exact ⟨rfl, hSw⟩)) (h := ?_)
  simp only [pu]
  iterate 2 (refine quietL ?_; simp only [pu])
  refine detL (.agg #[.string ⟨#[]⟩, .int .i64 0, .int .i64 0, .string ⟨#[]⟩, .bool false]) [boxE (b + 1 + 1 + 1), heapR h (H.replace x (placeP (H.items x).length y.n) (placeP (H.items x).length y.n + 1) [])] (h1 := fun Wx hSw => by (go_simp; refine symCall ?_; rw [HBS.out] at hSw ⊢; exact chg_del hSw 1 (by rfl) G hN x y (i4 := 4) (p4 := b) (i5 := 3) (p5 := b + 1) rfl rfl _ Qhl.out Qhy.out Qhp.out)) (h2 := ?_)
  simp only [pu]
  refine detL undef [boxE (b + 1 + 1 + 1), heapR h (H.replace x (placeP (H.items x).length y.n) (placeP (H.items x).length y.n + 1) [])] (h1 := fun Wx hSw => by (have hz := hSw.box (b := (b + 1 + 1 + 1)) (o := objE) 0 rfl; refine useZ5 hz fun z0 z1 z2 z3 z4 y0 y1 y2 y3 y4 => ?_; go_simp; exact ⟨rfl, hSw.set5 0 rfl (.string ⟨#[]⟩) (.int .i64 0) (.int .i64 0) (.string ⟨#[]⟩) (.bool false)⟩)) (h2 := ?_)
  simp only [pu]
  intro w1 S
  replace S := Lib.hid S
  replace S := S.out
  refine useR5 (S.box (b := b + 1 + 1 + 1) (o := objE) 0 rfl) fun r0 r1 r2 r3 r4 => ?_
  replace S := Lib.hid S
  go_wp2
  refine bodyPost_ret (v := .agg #[.string ⟨#[]⟩, .int .i64 0, .int .i64 0, .string ⟨#[]⟩, .bool false]) (by simp [results, Tryz.results40, go_sem, r0, r1, r2, r3, r4]) rfl ⟨rfl, ?_⟩
  replace S := S.out
  rw [HBS.out] at S
  exact HF.out _ _ (S.sub (Qs := heapR h (H.replace x (placeP (H.items x).length y.n) (placeP (H.items x).length y.n + 1) []) :: Rt) (.cons _ (.cons_cons _ (.cons _ (.cons _ (.cons _ (List.Sublist.refl _)))))))
end
end Go.Proofs.YtellmfimmghidaaGreat
