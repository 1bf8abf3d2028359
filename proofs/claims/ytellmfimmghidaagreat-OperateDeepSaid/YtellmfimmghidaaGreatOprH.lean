import Derived.Test.YtellmfimmghidaaGreatOprE
import Derived.Test.YtellmfimmghidaaGreatRegS
import Derived.Test.YtellmfimmghidaaGreatText1
import Derived.Test.YtellmfimmghidaaGreatText2
import Derived.Test.YtellmfimmghidaaGreatNumT
/- ch 16: add, of strs and rows. -/
namespace Go.Proofs.YtellmfimmghidaaGreat
set_option linter.unusedSimpArgs false
open Go.RowKit
set_option linter.unusedVariables false
theorem HeapM.kind_ref (H : HeapM) (v : V) (h : H.kind v ≠ 0) : v.kind = 4 := by
  unfold HeapM.kind HeapM.of at h
  by_cases e : v.kind = 4
  · exact e
  · rw [if_neg e] at h; simp at h
theorem HeapM.rowB_kind {H : HeapM} {v : V} (h : H.rowB v = true) : H.kind v = 1 ∨ H.kind v = 2 := by
  unfold HeapM.rowB at h; simpa using h
section
variable {w W : World} {Rs : List Res} {h : Nat} {H : HeapM}
theorem opi_items (S : Sep w Rs W) (i : Nat) (hi : Rs[i]? = some (heapR h H)) {N : Nat} (G : H.Good N) (hN : N ≤ 4000000) (v : V) :
    Calls Tryz.prog 31 #[.pointer (some ⟨h, 0, none⟩), .agg #[.int .i64 v.kind, .int .i64 v.n, .string v.s]] W fun e W' => ∃ a c, e = .returned (.slice a (H.items v).length c) ∧ Sep w (valsR (.slice a (H.items v).length c) (H.items v) :: Rs) W' := by
  refine (S.items i hi G hN v).mono fun e W' ⟨sv, h1, h2, _⟩ => ?_
  obtain ⟨a, c, hsv⟩ := (h2.row 0 rfl).form
  rw [hsv] at h1 h2
  exact ⟨a, c, h1, h2⟩
set_option maxRecDepth 100000 in
set_option maxHeartbeats 12800000 in
theorem add_row (S : Sep w Rs W) (i : Nat) (hi : Rs[i]? = some (heapR h H)) {N : Nat} (G : H.Good N) (hN : N + 1 ≤ 4000000) (x y : V) (hx : H.rowB x = true) (hk : H.kind x = H.kind y) (hl : (H.items x).length + (H.items y).length ≤ 4096) :
    Calls Tryz.prog 53 #[.pointer (some ⟨h, 0, none⟩), .agg #[.int .i64 x.kind, .int .i64 x.n, .string x.s], .agg #[.int .i64 y.kind, .int .i64 y.n, .string y.s]] W fun e W' => e = .returned (.tuple #[.agg #[.int .i64 4, .int .i64 (H.last + 1), .string ⟨#[]⟩], excZ]) ∧ Sep w (Rs.set i (heapR h (H.add (rowO (H.kind x) (H.okKind x) (H.items x ++ H.items y))))) W' := by
  obtain ⟨X1, hX1⟩ : ∃ l, l = H.items x := ⟨_, rfl⟩
  obtain ⟨Y1, hY1⟩ : ∃ l, l = H.items y := ⟨_, rfl⟩
  have hkx := HeapM.rowB_kind hx
  have hx4 : (x.kind == 3) = false := by have := H.kind_ref x (by omega); simp [this]
  obtain ⟨kx, hK⟩ : ∃ k, k = H.kind x := ⟨_, rfl⟩
  have hok : okI kx := by rw [hK]; exact H.okKind x
  rw [← hX1, ← hY1] at hl
  have hky : H.kind y = kx := by rw [hK, hk]
  have HX := Lib.hid hX1
  have HY := Lib.hid hY1
  have HK := Lib.hid hK
  have HKY := Lib.hid hky
  have HR := Lib.hid hx
  have hgx : X1.length ≤ N := by rw [hX1]; exact G.items x
  have hgy : Y1.length ≤ N := by rw [hY1]; exact G.items y
  have HB : Hid (1 ≤ kx ∧ kx ≤ 12) := Lib.hid (by rw [hK]; omega)
  clear hX1 hY1 hK hky hk hx hkx
  obtain ⟨b, hb⟩ : ∃ gx_, (W.heap.size) = gx_ := ⟨_, rfl⟩
  replace S := ((((S.alloc (.cells #[.int .i64 x.kind, .int .i64 x.n, .string x.s] 29)).alloc (.cells #[.int .i64 y.kind, .int .i64 y.n, .string y.s] 29)).alloc (.cells #[.int .i64 0, .int .i64 0, .string ⟨#[]⟩] 29)).alloc (.cells #[.string ⟨#[]⟩, .int .i64 0, .int .i64 0, .string ⟨#[]⟩, .bool false] 38))
  simp only [World.size_alloc, hb] at S
  replace S : Sep w (boxE (b + 1 + 1 + 1) :: boxZ (b + 1 + 1) :: boxV (b + 1) y :: boxV b x :: Rs) ((((W.alloc (.cells #[.int .i64 x.kind, .int .i64 x.n, .string x.s] 29)).alloc (.cells #[.int .i64 y.kind, .int .i64 y.n, .string y.s] 29)).alloc (.cells #[.int .i64 0, .int .i64 0, .string ⟨#[]⟩] 29)).alloc (.cells #[.string ⟨#[]⟩, .int .i64 0, .int .i64 0, .string ⟨#[]⟩, .bool false] 38)) := S
  refine useR3 (S.box (b := b) (o := objV x) 3 rfl) fun d0 d1 d2 => ?_
  refine useR3 (S.box (b := b + 1) (o := objV y) 2 rfl) fun d3 d4 d5 => ?_
  refine useR3 (S.box (b := b + 1 + 1) (o := objZ) 1 rfl) fun d6 d7 d8 => ?_
  refine useR5 (S.box (b := b + 1 + 1 + 1) (o := objE) 0 rfl) fun d9 d10 d11 d12 d13 => ?_
  replace S := Lib.hid S
  go_enter Tryz.func53, Tryz.ntmps53
  go_upto_region 3 with fail
  try simp only [World.size_alloc, hb]
  clear d0 d1 d2 d3 d4 d5 d6 d7 d8 d9 d10 d11 d12 d13 hb
  replace S := S.out
  clear hx4
  refine named (boxE (b + 1 + 1 + 1) :: boxZ (b + 1 + 1) :: boxV (b + 1) y :: boxV b x :: Rs) fun bA hbA => ?_
  have HbA := Lib.hid hbA
  have KbA : Hid (∀ W (Q : List Res), Sep w (Q ++ bA) W → True) := Lib.hid fun W Q T => by
    rw [hbA] at T
    trivial
  have CbA_0 := baseC3 (w := w) (b := b) hbA 3 rfl
  have CbA_1 := baseC3 (w := w) (b := b + 1) hbA 2 rfl
  have KR : KC w bA 72 #[hpV h, agV x] (.bool true) := Lib.hid fun W Q T => by
    rw [HbA.out] at T ⊢
    exact row_ok T (Q.length + 4 + i) (atI4 hi) x true HR.out
  have KX : KC w bA 30 #[hpV h, agV x] (.int .i64 kx) := Lib.hid fun W Q T => by
    rw [HbA.out] at T ⊢
    exact kind_at T (Q.length + 4 + i) (atI4 hi) x kx HK.out.symm
  have KY : KC w bA 30 #[hpV h, agV y] (.int .i64 kx) := Lib.hid fun W Q T => by
    rw [HbA.out] at T ⊢
    exact kind_at T (Q.length + 4 + i) (atI4 hi) y kx HKY.out
  replace S := Lib.hid S
  clear hbA
  have S1 : Sep w ([] ++ bA) (((((W.alloc (.cells #[.int .i64 x.kind, .int .i64 x.n, .string x.s] 29)).alloc (.cells #[.int .i64 y.kind, .int .i64 y.n, .string y.s] 29)).alloc (.cells #[.int .i64 0, .int .i64 0, .string ⟨#[]⟩] 29)).alloc (.cells #[.string ⟨#[]⟩, .int .i64 0, .int .i64 0, .string ⟨#[]⟩, .bool false] 38))) := by rw [HbA.out]; exact S.out
  clear S
  refine regionS (E := []) (base := bA) S1 ?_
  clear S1
  refine quietS 0 ?_
  simp only [pu]
  refine quietSC 1 CbA_0 ?_
  simp only [pu]
  refine quietSK 2 KR ?_
  simp only [pu]
  refine quietS 3 ?_
  simp only [pu]
  refine quietS 4 ?_
  simp only [pu]
  refine quietSC 5 CbA_0 ?_
  simp only [pu]
  refine quietSK 6 KX ?_
  simp only [pu]
  refine quietS 7 ?_
  simp only [pu]
  refine quietSC 8 CbA_1 ?_
  simp only [pu]
  refine quietSK 9 KY ?_
  simp only [pu]
  refine quietS 10 ?_
  simp only [pu]
  refine quietS 11 ?_
  simp only [pu]
  refine quietS 12 ?_
  simp only [pu]
  refine doneS (h := fun w2 S => ?_)
  replace S : Sep w (boxE (b + 1 + 1 + 1) :: boxZ (b + 1 + 1) :: boxV (b + 1) y :: boxV b x :: Rs) w2 := by rw [HbA.out] at S; exact S
  clear KR KX KY KbA CbA_0 CbA_1 HbA
  obtain ⟨Rt, hRt⟩ : ∃ l, l = Rs.eraseIdx i := ⟨_, rfl⟩
  have HF : Hid (∀ H' W', Sep w (heapR h H' :: Rt) W' → Sep w (Rs.set i (heapR h H')) W') := Lib.hid fun H' W' T => by rw [hRt] at T; exact T.perm (perm_push hi).symm
  replace S : Sep w (heapR h H :: boxE (b + 1 + 1 + 1) :: boxZ (b + 1 + 1) :: boxV (b + 1) y :: boxV b x :: Rt) w2 := by
    have T : Sep w ([boxE (b + 1 + 1 + 1), boxZ (b + 1 + 1), boxV (b + 1) y, boxV b x] ++ Rs) w2 := S
    refine T.perm ?_
    have e : Rs.Perm (heapR h H :: Rt) := by rw [hRt]; exact perm_pull hi
    exact (List.Perm.append_left _ e).trans List.perm_middle
  clear hRt
  refine named (boxV (b + 1) y :: boxV b x :: Rt) fun bB hbB => ?_
  have HbB := Lib.hid hbB
  have KbB : Hid (∀ W (Q : List Res), Sep w (Q ++ bB) W → True) := Lib.hid fun W Q T => by
    rw [hbB] at T
    trivial
  have CbB_0 := baseC3 (w := w) (b := b) hbB 1 rfl
  have CbB_1 := baseC3 (w := w) (b := b + 1) hbB 0 rfl
  replace S := Lib.hid S
  clear hbB
  go_upto_region 4 with fail
  go_cut [] (fun  wx => ∃ a3 c3 a2 c2, Sep w ([valsR (.slice a3 (X1.length + Y1.length) c3) (X1 ++ Y1), valsR (.slice a2 Y1.length c2) Y1, heapR h (H.add (rowO kx hok (X1 ++ Y1))), boxE (b + 1 + 1 + 1), boxW (b + 1 + 1) 4 (H.last + 1) ⟨#[]⟩] ++ bB) wx)
  case first =>
    have S1 : Sep w ([heapR h H, boxE (b + 1 + 1 + 1), boxZ (b + 1 + 1)] ++ bB) (w2) := by rw [HbB.out]; exact S.out
    clear S
    refine regionS (E := [emptyR, emptyR, heapR h H, boxE (b + 1 + 1 + 1), boxZ (b + 1 + 1)]) (base := bB) (Sep.putE (Sep.putE S1)) ?_
    clear S1
    refine quietS 0 ?_
    simp only [pu]
    refine quietS 1 ?_
    simp only [pu]
    refine quietSC 2 CbB_0 ?_
    simp only [pu]
    refine quietS 4 ?_
    simp only [pu]
    refine quietSC 5 CbB_0 ?_
    simp only [pu]
    refine quietS 7 ?_
    simp only [pu]
    refine quietSC 8 CbB_1 ?_
    simp only [pu]
    refine readyS [3] ?_
    refine detS (.int .i64 kx) [emptyR, emptyR, heapR h H, boxE (b + 1 + 1 + 1), boxZ (b + 1 + 1)] (h1 := fun Wx hSw => by (go_simp; refine symCall ?_; exact kind_at hSw 2 rfl x kx HK.out.symm)) (h2 := ?_) (hs := nilS)
    simp only [pu]
    refine readyS [6] ?_
    refine stepS (fun v E1 => ∃ (a2 : Option Addr) (c2 : Nat), v = .slice a2 X1.length c2 ∧ E1 = [valsR (.slice a2 X1.length c2) X1, emptyR, heapR h H, boxE (b + 1 + 1 + 1), boxZ (b + 1 + 1)]) (h1 := fun Wx hSw => by (go_simp; refine symCallN ?_; have hh := opi_items hSw 2 rfl G (by omega) x; rw [← HX.out] at hh; exact hh.mono fun e W' ⟨a, c, e1, e2⟩ => ⟨_, _, e1, ⟨a, c, rfl, rfl⟩, e2.into 0 rfl⟩)) (h2 := fun v E1 hvE => ?_) (hs := nilS)
    obtain ⟨a2, c2, rfl, rfl⟩ := hvE
    simp only [pu]
    refine readyS [9] ?_
    refine stepS (fun v E1 => ∃ (a3 : Option Addr) (c3 : Nat), v = .slice a3 Y1.length c3 ∧ E1 = [valsR (.slice a2 X1.length c2) X1, valsR (.slice a3 Y1.length c3) Y1, heapR h H, boxE (b + 1 + 1 + 1), boxZ (b + 1 + 1)]) (h1 := fun Wx hSw => by (go_simp; refine symCallN ?_; have hh := opi_items hSw 2 rfl G (by omega) y; rw [← HY.out] at hh; exact hh.mono fun e W' ⟨a, c, e1, e2⟩ => ⟨_, _, e1, ⟨a, c, rfl, rfl⟩, e2.into 1 rfl⟩)) (h2 := fun v E1 hvE => ?_) (hs := nilS)
    obtain ⟨a3, c3, rfl, rfl⟩ := hvE
    simp only [pu]
    refine readyS [10] ?_
    refine stepS (fun v E1 => ∃ (a4 : Option Addr) (c4 : Nat), v = .slice a4 (X1.length + Y1.length) c4 ∧ E1 = [valsR (.slice a4 (X1.length + Y1.length) c4) (X1 ++ Y1), valsR (.slice a3 Y1.length c3) Y1, heapR h H, boxE (b + 1 + 1 + 1), boxZ (b + 1 + 1)]) (h1 := fun Wx hSw => by (obtain ⟨va, vc, w2, hr, S2⟩ := run_append_rows (f := V.cells) 22 29 22 Tryz.underlying22 _ _ info_val rfl (by decide) (by decide) V.cells_len (fun p u hu => by simp [V.cells] at hu; rcases hu with rfl | rfl | rfl <;> rfl) hSw 0 rfl (.slice a3 Y1.length c3) Y1 (slIs.seesR V.cells_len (hSw.row 1 rfl)) (by omega); exact symAppend _ _ _ _ rfl _ _ rfl rfl hr ⟨_, ⟨va, vc, rfl, rfl⟩, S2⟩)) (h2 := fun v E1 hvE => ?_) (hs := nilS)
    obtain ⟨a4, c4, rfl, rfl⟩ := hvE
    simp only [pu]
    refine readyS [11] ?_
    refine detS (.tuple #[.agg #[.int .i64 4, .int .i64 (H.last + 1), .string ⟨#[]⟩], excZ]) [valsR (.slice a4 (X1.length + Y1.length) c4) (X1 ++ Y1), valsR (.slice a3 Y1.length c3) Y1, heapR h (H.add (rowO kx hok (X1 ++ Y1))), boxE (b + 1 + 1 + 1), boxZ (b + 1 + 1)] (h1 := fun Wx hSw => by (go_simp; refine symCall ?_; have hh := fresh_ok hSw 2 rfl G hN kx hok HB.out.1 HB.out.2 a4 c4 (X1 ++ Y1) (fun W' T => by rw [List.length_append]; exact (T.row 0 rfl).sees') (by rw [List.length_append]; exact hl); rw [List.length_append] at hh; exact hh)) (h2 := ?_) (hs := nilS)
    simp only [pu]
    refine quietS 12 ?_
    simp only [pu]
    refine quietS 13 ?_
    simp only [pu]
    refine readyS [14] ?_
    refine detS undef [valsR (.slice a4 (X1.length + Y1.length) c4) (X1 ++ Y1), valsR (.slice a3 Y1.length c3) Y1, heapR h (H.add (rowO kx hok (X1 ++ Y1))), boxE (b + 1 + 1 + 1), boxW (b + 1 + 1) 4 (H.last + 1) ⟨#[]⟩] (h1 := fun Wx hSw => by (have hz := hSw.box (b := (b + 1 + 1)) (o := objZ) 4 rfl; refine useZ3 hz fun z0 z1 z2 y0 y1 y2 => ?_; go_simp; exact ⟨rfl, hSw.set3 4 rfl (.int .i64 4) (.int .i64 (H.last + 1)) (.string ⟨#[]⟩)⟩)) (h2 := ?_) (hs := nilS)
    simp only [pu]
    refine readyS [15] ?_
    refine detS undef [valsR (.slice a4 (X1.length + Y1.length) c4) (X1 ++ Y1), valsR (.slice a3 Y1.length c3) Y1, heapR h (H.add (rowO kx hok (X1 ++ Y1))), boxE (b + 1 + 1 + 1), boxW (b + 1 + 1) 4 (H.last + 1) ⟨#[]⟩] (h1 := fun Wx hSw => by (have hz := hSw.box (b := (b + 1 + 1 + 1)) (o := objE) 3 rfl; refine useZ5 hz fun z0 z1 z2 z3 z4 y0 y1 y2 y3 y4 => ?_; go_simp; exact ⟨rfl, hSw.set5 3 rfl (.string ⟨#[]⟩) (.int .i64 0) (.int .i64 0) (.string ⟨#[]⟩) (.bool false)⟩)) (h2 := ?_) (hs := nilS)
    simp only [pu]
    refine doneS (h := fun w3 S => ?_)
    go_wp2_with fail
    go_meet
    exact ⟨_, _, _, _, S⟩
  case rest =>
    obtain ⟨a3, c3, a2, c2, S⟩ := hcut
    replace S : Sep w (boxE (b + 1 + 1 + 1) :: boxW (b + 1 + 1) 4 (H.last + 1) ⟨#[]⟩ :: heapR h (H.add (rowO kx hok (X1 ++ Y1))) :: Rt) wc := by
      rw [HbB.out] at S
      have T := S.tail.tail
      refine (T.sub (Qs := [heapR h (H.add (rowO kx hok (X1 ++ Y1))), boxE (b + 1 + 1 + 1), boxW (b + 1 + 1) 4 (H.last + 1) ⟨#[]⟩] ++ Rt) ?_).perm ?_
      · exact List.Sublist.append (List.Sublist.refl _) (.cons _ (.cons _ (List.Sublist.refl _)))
      · exact List.perm_middle (l₁ := [boxE (b + 1 + 1 + 1), boxW (b + 1 + 1) 4 (H.last + 1) ⟨#[]⟩]) |>.symm
    refine useR3 (S.box (b := b + 1 + 1) (o := objW 4 (H.last + 1) ⟨#[]⟩) 1 rfl) fun r0 r1 r2 => ?_
    refine useR5 (S.box (b := b + 1 + 1 + 1) (o := objE) 0 rfl) fun r3 r4 r5 r6 r7 => ?_
    replace S := Lib.hid S
    go_wp2
    refine bodyPost_ret (v := .tuple #[.agg #[.int .i64 4, .int .i64 (H.last + 1), .string ⟨#[]⟩], .agg #[.string ⟨#[]⟩, .int .i64 0, .int .i64 0, .string ⟨#[]⟩, .bool false]]) ?_ ?_ ?_
    · simp [results, Tryz.results53, go_sem, r0, r1, r2, r3, r4, r5, r6, r7]
    · rfl
    refine ⟨rfl, ?_⟩
    replace S := S.out
    have hX1 := HX.out
    have hY1 := HY.out
    have hK := HK.out
    subst hX1 hY1 hK
    exact HF.out _ _ S.tail.tail
set_option maxRecDepth 100000 in
set_option maxHeartbeats 12800000 in
theorem add_row_no (S : Sep w Rs W) (i : Nat) (hi : Rs[i]? = some (heapR h H)) {N : Nat} (G : H.Good N) (hN : N + 1 ≤ 4000000) (x y : V) (hx : H.rowB x = true) (hk : H.kind x = H.kind y) (hl : 4096 < (H.items x).length + (H.items y).length) :
    Calls Tryz.prog 53 #[.pointer (some ⟨h, 0, none⟩), .agg #[.int .i64 x.kind, .int .i64 x.n, .string x.s], .agg #[.int .i64 y.kind, .int .i64 y.n, .string y.s]] W fun e W' => e = .returned (.tuple #[zeroV, excN memoryError]) ∧ Sep w Rs W' := by
  obtain ⟨X1, hX1⟩ : ∃ l, l = H.items x := ⟨_, rfl⟩
  obtain ⟨Y1, hY1⟩ : ∃ l, l = H.items y := ⟨_, rfl⟩
  have hkx := HeapM.rowB_kind hx
  have hx4 : (x.kind == 3) = false := by have := H.kind_ref x (by omega); simp [this]
  obtain ⟨kx, hK⟩ : ∃ k, k = H.kind x := ⟨_, rfl⟩
  have hok : okI kx := by rw [hK]; exact H.okKind x
  rw [← hX1, ← hY1] at hl
  have hky : H.kind y = kx := by rw [hK, hk]
  have HX := Lib.hid hX1
  have HY := Lib.hid hY1
  have HK := Lib.hid hK
  have HKY := Lib.hid hky
  have HR := Lib.hid hx
  have hgx : X1.length ≤ N := by rw [hX1]; exact G.items x
  have hgy : Y1.length ≤ N := by rw [hY1]; exact G.items y
  have HB : Hid (1 ≤ kx ∧ kx ≤ 12) := Lib.hid (by rw [hK]; omega)
  clear hX1 hY1 hK hky hk hx hkx
  obtain ⟨b, hb⟩ : ∃ gx_, (W.heap.size) = gx_ := ⟨_, rfl⟩
  replace S := ((((S.alloc (.cells #[.int .i64 x.kind, .int .i64 x.n, .string x.s] 29)).alloc (.cells #[.int .i64 y.kind, .int .i64 y.n, .string y.s] 29)).alloc (.cells #[.int .i64 0, .int .i64 0, .string ⟨#[]⟩] 29)).alloc (.cells #[.string ⟨#[]⟩, .int .i64 0, .int .i64 0, .string ⟨#[]⟩, .bool false] 38))
  simp only [World.size_alloc, hb] at S
  replace S : Sep w (boxE (b + 1 + 1 + 1) :: boxZ (b + 1 + 1) :: boxV (b + 1) y :: boxV b x :: Rs) ((((W.alloc (.cells #[.int .i64 x.kind, .int .i64 x.n, .string x.s] 29)).alloc (.cells #[.int .i64 y.kind, .int .i64 y.n, .string y.s] 29)).alloc (.cells #[.int .i64 0, .int .i64 0, .string ⟨#[]⟩] 29)).alloc (.cells #[.string ⟨#[]⟩, .int .i64 0, .int .i64 0, .string ⟨#[]⟩, .bool false] 38)) := S
  refine useR3 (S.box (b := b) (o := objV x) 3 rfl) fun d0 d1 d2 => ?_
  refine useR3 (S.box (b := b + 1) (o := objV y) 2 rfl) fun d3 d4 d5 => ?_
  refine useR3 (S.box (b := b + 1 + 1) (o := objZ) 1 rfl) fun d6 d7 d8 => ?_
  refine useR5 (S.box (b := b + 1 + 1 + 1) (o := objE) 0 rfl) fun d9 d10 d11 d12 d13 => ?_
  replace S := Lib.hid S
  go_enter Tryz.func53, Tryz.ntmps53
  go_upto_region 3 with fail
  try simp only [World.size_alloc, hb]
  clear d0 d1 d2 d3 d4 d5 d6 d7 d8 d9 d10 d11 d12 d13 hb
  replace S := S.out
  clear hx4
  refine named (boxE (b + 1 + 1 + 1) :: boxZ (b + 1 + 1) :: boxV (b + 1) y :: boxV b x :: Rs) fun bA hbA => ?_
  have HbA := Lib.hid hbA
  have KbA : Hid (∀ W (Q : List Res), Sep w (Q ++ bA) W → True) := Lib.hid fun W Q T => by
    rw [hbA] at T
    trivial
  have CbA_0 := baseC3 (w := w) (b := b) hbA 3 rfl
  have CbA_1 := baseC3 (w := w) (b := b + 1) hbA 2 rfl
  have KR : KC w bA 72 #[hpV h, agV x] (.bool true) := Lib.hid fun W Q T => by
    rw [HbA.out] at T ⊢
    exact row_ok T (Q.length + 4 + i) (atI4 hi) x true HR.out
  have KX : KC w bA 30 #[hpV h, agV x] (.int .i64 kx) := Lib.hid fun W Q T => by
    rw [HbA.out] at T ⊢
    exact kind_at T (Q.length + 4 + i) (atI4 hi) x kx HK.out.symm
  have KY : KC w bA 30 #[hpV h, agV y] (.int .i64 kx) := Lib.hid fun W Q T => by
    rw [HbA.out] at T ⊢
    exact kind_at T (Q.length + 4 + i) (atI4 hi) y kx HKY.out
  replace S := Lib.hid S
  clear hbA
  have S1 : Sep w ([] ++ bA) (((((W.alloc (.cells #[.int .i64 x.kind, .int .i64 x.n, .string x.s] 29)).alloc (.cells #[.int .i64 y.kind, .int .i64 y.n, .string y.s] 29)).alloc (.cells #[.int .i64 0, .int .i64 0, .string ⟨#[]⟩] 29)).alloc (.cells #[.string ⟨#[]⟩, .int .i64 0, .int .i64 0, .string ⟨#[]⟩, .bool false] 38))) := by rw [HbA.out]; exact S.out
  clear S
  refine regionS (E := []) (base := bA) S1 ?_
  clear S1
  refine quietS 0 ?_
  simp only [pu]
  refine quietSC 1 CbA_0 ?_
  simp only [pu]
  refine quietSK 2 KR ?_
  simp only [pu]
  refine quietS 3 ?_
  simp only [pu]
  refine quietS 4 ?_
  simp only [pu]
  refine quietSC 5 CbA_0 ?_
  simp only [pu]
  refine quietSK 6 KX ?_
  simp only [pu]
  refine quietS 7 ?_
  simp only [pu]
  refine quietSC 8 CbA_1 ?_
  simp only [pu]
  refine quietSK 9 KY ?_
  simp only [pu]
  refine quietS 10 ?_
  simp only [pu]
  refine quietS 11 ?_
  simp only [pu]
  refine quietS 12 ?_
  simp only [pu]
  refine doneS (h := fun w2 S => ?_)
  replace S : Sep w (boxE (b + 1 + 1 + 1) :: boxZ (b + 1 + 1) :: boxV (b + 1) y :: boxV b x :: Rs) w2 := by rw [HbA.out] at S; exact S
  clear KR KX KY KbA CbA_0 CbA_1 HbA
  obtain ⟨Rt, hRt⟩ : ∃ l, l = Rs.eraseIdx i := ⟨_, rfl⟩
  have HF : Hid (∀ H' W', Sep w (heapR h H' :: Rt) W' → Sep w (Rs.set i (heapR h H')) W') := Lib.hid fun H' W' T => by rw [hRt] at T; exact T.perm (perm_push hi).symm
  replace S : Sep w (heapR h H :: boxE (b + 1 + 1 + 1) :: boxZ (b + 1 + 1) :: boxV (b + 1) y :: boxV b x :: Rt) w2 := by
    have T : Sep w ([boxE (b + 1 + 1 + 1), boxZ (b + 1 + 1), boxV (b + 1) y, boxV b x] ++ Rs) w2 := S
    refine T.perm ?_
    have e : Rs.Perm (heapR h H :: Rt) := by rw [hRt]; exact perm_pull hi
    exact (List.Perm.append_left _ e).trans List.perm_middle
  clear hRt
  refine named (boxV (b + 1) y :: boxV b x :: Rt) fun bB hbB => ?_
  have HbB := Lib.hid hbB
  have KbB : Hid (∀ W (Q : List Res), Sep w (Q ++ bB) W → True) := Lib.hid fun W Q T => by
    rw [hbB] at T
    trivial
  have CbB_0 := baseC3 (w := w) (b := b) hbB 1 rfl
  have CbB_1 := baseC3 (w := w) (b := b + 1) hbB 0 rfl
  replace S := Lib.hid S
  clear hbB
  go_upto_region 4 with fail
  go_cut [] (fun  wx => ∃ a3 c3 a2 c2, Sep w ([valsR (.slice a3 (X1.length + Y1.length) c3) (X1 ++ Y1), valsR (.slice a2 Y1.length c2) Y1, heapR h H, boxN (b + 1 + 1 + 1) memoryError, boxZ (b + 1 + 1)] ++ bB) wx)
  case first =>
    have S1 : Sep w ([heapR h H, boxE (b + 1 + 1 + 1), boxZ (b + 1 + 1)] ++ bB) (w2) := by rw [HbB.out]; exact S.out
    clear S
    refine regionS (E := [emptyR, emptyR, heapR h H, boxE (b + 1 + 1 + 1), boxZ (b + 1 + 1)]) (base := bB) (Sep.putE (Sep.putE S1)) ?_
    clear S1
    refine quietS 0 ?_
    simp only [pu]
    refine quietS 1 ?_
    simp only [pu]
    refine quietSC 2 CbB_0 ?_
    simp only [pu]
    refine quietS 4 ?_
    simp only [pu]
    refine quietSC 5 CbB_0 ?_
    simp only [pu]
    refine quietS 7 ?_
    simp only [pu]
    refine quietSC 8 CbB_1 ?_
    simp only [pu]
    refine readyS [3] ?_
    refine detS (.int .i64 kx) [emptyR, emptyR, heapR h H, boxE (b + 1 + 1 + 1), boxZ (b + 1 + 1)] (h1 := fun Wx hSw => by (go_simp; refine symCall ?_; exact kind_at hSw 2 rfl x kx HK.out.symm)) (h2 := ?_) (hs := nilS)
    simp only [pu]
    refine readyS [6] ?_
    refine stepS (fun v E1 => ∃ (a2 : Option Addr) (c2 : Nat), v = .slice a2 X1.length c2 ∧ E1 = [valsR (.slice a2 X1.length c2) X1, emptyR, heapR h H, boxE (b + 1 + 1 + 1), boxZ (b + 1 + 1)]) (h1 := fun Wx hSw => by (go_simp; refine symCallN ?_; have hh := opi_items hSw 2 rfl G (by omega) x; rw [← HX.out] at hh; exact hh.mono fun e W' ⟨a, c, e1, e2⟩ => ⟨_, _, e1, ⟨a, c, rfl, rfl⟩, e2.into 0 rfl⟩)) (h2 := fun v E1 hvE => ?_) (hs := nilS)
    obtain ⟨a2, c2, rfl, rfl⟩ := hvE
    simp only [pu]
    refine readyS [9] ?_
    refine stepS (fun v E1 => ∃ (a3 : Option Addr) (c3 : Nat), v = .slice a3 Y1.length c3 ∧ E1 = [valsR (.slice a2 X1.length c2) X1, valsR (.slice a3 Y1.length c3) Y1, heapR h H, boxE (b + 1 + 1 + 1), boxZ (b + 1 + 1)]) (h1 := fun Wx hSw => by (go_simp; refine symCallN ?_; have hh := opi_items hSw 2 rfl G (by omega) y; rw [← HY.out] at hh; exact hh.mono fun e W' ⟨a, c, e1, e2⟩ => ⟨_, _, e1, ⟨a, c, rfl, rfl⟩, e2.into 1 rfl⟩)) (h2 := fun v E1 hvE => ?_) (hs := nilS)
    obtain ⟨a3, c3, rfl, rfl⟩ := hvE
    simp only [pu]
    refine readyS [10] ?_
    refine stepS (fun v E1 => ∃ (a4 : Option Addr) (c4 : Nat), v = .slice a4 (X1.length + Y1.length) c4 ∧ E1 = [valsR (.slice a4 (X1.length + Y1.length) c4) (X1 ++ Y1), valsR (.slice a3 Y1.length c3) Y1, heapR h H, boxE (b + 1 + 1 + 1), boxZ (b + 1 + 1)]) (h1 := fun Wx hSw => by (obtain ⟨va, vc, w2, hr, S2⟩ := run_append_rows (f := V.cells) 22 29 22 Tryz.underlying22 _ _ info_val rfl (by decide) (by decide) V.cells_len (fun p u hu => by simp [V.cells] at hu; rcases hu with rfl | rfl | rfl <;> rfl) hSw 0 rfl (.slice a3 Y1.length c3) Y1 (slIs.seesR V.cells_len (hSw.row 1 rfl)) (by omega); exact symAppend _ _ _ _ rfl _ _ rfl rfl hr ⟨_, ⟨va, vc, rfl, rfl⟩, S2⟩)) (h2 := fun v E1 hvE => ?_) (hs := nilS)
    obtain ⟨a4, c4, rfl, rfl⟩ := hvE
    simp only [pu]
    refine readyS [11] ?_
    refine detS (.tuple #[zeroV, excN memoryError]) [valsR (.slice a4 (X1.length + Y1.length) c4) (X1 ++ Y1), valsR (.slice a3 Y1.length c3) Y1, heapR h H, boxE (b + 1 + 1 + 1), boxZ (b + 1 + 1)] (h1 := fun Wx hSw => by (go_simp; refine symCall ?_; exact fresh_no hSw kx a4 (X1.length + Y1.length) c4 hl)) (h2 := ?_) (hs := nilS)
    simp only [pu]
    refine quietS 12 ?_
    simp only [pu]
    refine quietS 13 ?_
    simp only [pu]
    refine readyS [14] ?_
    refine detS undef [valsR (.slice a4 (X1.length + Y1.length) c4) (X1 ++ Y1), valsR (.slice a3 Y1.length c3) Y1, heapR h H, boxE (b + 1 + 1 + 1), boxZ (b + 1 + 1)] (h1 := fun Wx hSw => by (have hz := hSw.box (b := (b + 1 + 1)) (o := objZ) 4 rfl; refine useZ3 hz fun z0 z1 z2 y0 y1 y2 => ?_; go_simp; exact ⟨rfl, hSw.set3 4 rfl (.int .i64 0) (.int .i64 0) (.string ⟨#[]⟩)⟩)) (h2 := ?_) (hs := nilS)
    simp only [pu]
    refine readyS [15] ?_
    refine detS undef [valsR (.slice a4 (X1.length + Y1.length) c4) (X1 ++ Y1), valsR (.slice a3 Y1.length c3) Y1, heapR h H, boxN (b + 1 + 1 + 1) memoryError, boxZ (b + 1 + 1)] (h1 := fun Wx hSw => by (have hz := hSw.box (b := (b + 1 + 1 + 1)) (o := objE) 3 rfl; refine useZ5 hz fun z0 z1 z2 z3 z4 y0 y1 y2 y3 y4 => ?_; go_simp; exact ⟨rfl, hSw.set5 3 rfl (.string memoryError) (.int .i64 0) (.int .i64 0) (.string ⟨#[]⟩) (.bool false)⟩)) (h2 := ?_) (hs := nilS)
    simp only [pu]
    refine doneS (h := fun w3 S => ?_)
    go_wp2_with fail
    go_meet
    exact ⟨_, _, _, _, S⟩
  case rest =>
    obtain ⟨a3, c3, a2, c2, S⟩ := hcut
    replace S : Sep w (boxN (b + 1 + 1 + 1) memoryError :: boxZ (b + 1 + 1) :: heapR h H :: Rt) wc := by
      rw [HbB.out] at S
      have T := S.tail.tail
      refine (T.sub (Qs := [heapR h H, boxN (b + 1 + 1 + 1) memoryError, boxZ (b + 1 + 1)] ++ Rt) ?_).perm ?_
      · exact List.Sublist.append (List.Sublist.refl _) (.cons _ (.cons _ (List.Sublist.refl _)))
      · exact List.perm_middle (l₁ := [boxN (b + 1 + 1 + 1) memoryError, boxZ (b + 1 + 1)]) |>.symm
    refine useR3 (S.box (b := b + 1 + 1) (o := objZ) 1 rfl) fun r0 r1 r2 => ?_
    refine useR5 (S.box (b := b + 1 + 1 + 1) (o := objN memoryError) 0 rfl) fun r3 r4 r5 r6 r7 => ?_
    replace S := Lib.hid S
    go_wp2
    refine bodyPost_ret (v := .tuple #[.agg #[.int .i64 0, .int .i64 0, .string ⟨#[]⟩], .agg #[.string memoryError, .int .i64 0, .int .i64 0, .string ⟨#[]⟩, .bool false]]) ?_ ?_ ?_
    · simp [results, Tryz.results53, go_sem, r0, r1, r2, r3, r4, r5, r6, r7]
    · rfl
    refine ⟨rfl, ?_⟩
    replace S := S.out
    have hX1 := HX.out
    have hY1 := HY.out
    have hK := HK.out
    subst hX1 hY1 hK
    have hs := HF.out _ _ S.tail.tail
    rwa [show Rs.set i (heapR h H) = Rs from by obtain ⟨a1, e1⟩ := List.getElem?_eq_some_iff.1 hi; rw [← e1]; exact List.set_getElem_self a1] at hs
end
end Go.Proofs.YtellmfimmghidaaGreat
/- ch 16: the small ones: place, end, lost, str, num. -/
namespace Go.Proofs.YtellmfimmghidaaGreat
set_option linter.unusedSimpArgs false
open Go.RowKit
set_option linter.unusedVariables false
section
variable {w W : World} {Rs : List Res} {h : Nat} {H : HeapM}
/-- The place of an index in so many. -/
def placeP (n : Nat) (i : Int) : Int := if i < 0 then i + n else i
def inP (n : Nat) (i : Int) : Bool := decide (0 ≤ placeP n i) && decide (placeP n i < n)
set_option maxRecDepth 100000 in
theorem place_ok (W : World) (n : Nat) (i : Int) (hn : n ≤ 9000000) (hi : (Lit.int .i64 i).wf = true) : Calls Tryz.prog 73 #[.int .i64 n, .int .i64 i] W fun e W' => e = .returned (.tuple #[.int .i64 (placeP n i), .bool (inP n i)]) ∧ W' = W := by
  have hb : -9223372036854775808 ≤ i ∧ i ≤ 9223372036854775807 := okI_range hi
  have hnn : (n : Int) ≤ 9000000 := by omega
  have hn0 : (0 : Int) ≤ n := by omega
  obtain ⟨p, hp⟩ : ∃ p, p = placeP n i := ⟨_, rfl⟩
  have hr : inP n i = (decide (0 ≤ p) && decide (p < n)) := by rw [hp]; rfl
  obtain ⟨r, hr1⟩ : ∃ r, r = (decide (0 ≤ p) && decide (p < n)) := ⟨_, rfl⟩
  rw [hr, ← hp, ← hr1]
  clear hr
  by_cases h0 : i < 0
  · have e : p = i + n := by rw [hp, placeP, if_pos h0]
    have hw : IntKind.i64.wrap (i + n) = i + n := IntWalk.i64_in (i + n) (by omega)
    subst e
    clear hp hi
    by_cases h1 : 0 ≤ i + n
    · by_cases h2 : i + n < n
      · obtain rfl : r = true := by rw [hr1]; simp [h1, h2]
        clear hr1
        go_enter Tryz.func73, Tryz.ntmps73
        go_wp2
        exact bodyPost_ret (v := .tuple #[.int .i64 (i + n), .bool true]) (by simp [results, Tryz.results73, go_sem, h1, h2]) rfl ⟨rfl, rfl⟩
      · obtain rfl : r = false := by rw [hr1]; simp [h2]
        clear hr1
        go_enter Tryz.func73, Tryz.ntmps73
        go_wp2
        exact bodyPost_ret (v := .tuple #[.int .i64 (i + n), .bool false]) (by simp [results, Tryz.results73, go_sem, h1, h2]) rfl ⟨rfl, rfl⟩
    · obtain rfl : r = false := by rw [hr1]; simp [h1]
      clear hr1
      go_enter Tryz.func73, Tryz.ntmps73
      go_wp2
      exact bodyPost_ret (v := .tuple #[.int .i64 (i + n), .bool false]) (by simp [results, Tryz.results73, go_sem, h1]) rfl ⟨rfl, rfl⟩
  · have e : p = i := by rw [hp, placeP, if_neg h0]
    subst e
    clear hp hi
    have h1 : 0 ≤ p := by omega
    by_cases h2 : p < n
    · obtain rfl : r = true := by rw [hr1]; simp [h1, h2]
      clear hr1
      go_enter Tryz.func73, Tryz.ntmps73
      go_wp2
      exact bodyPost_ret (v := .tuple #[.int .i64 p, .bool true]) (by simp [results, Tryz.results73, go_sem, h1, h2]) rfl ⟨rfl, rfl⟩
    · obtain rfl : r = false := by rw [hr1]; simp [h2]
      clear hr1
      go_enter Tryz.func73, Tryz.ntmps73
      go_wp2
      exact bodyPost_ret (v := .tuple #[.int .i64 p, .bool false]) (by simp [results, Tryz.results73, go_sem, h1, h2]) rfl ⟨rfl, rfl⟩
set_option maxRecDepth 100000 in
theorem ostr_z (W : World) (s : ByteArray) : Calls Tryz.prog 70 #[.string s, .string ⟨#[]⟩] W fun e W' => e = .returned (.tuple #[.agg #[.int .i64 3, .int .i64 0, .string s], excZ]) ∧ Below W.heap.size W W' := by
  go_enter Tryz.func70, Tryz.ntmps70
  go_wp2
  exact bodyPost_ret (v := .tuple #[.agg #[.int .i64 3, .int .i64 0, .string s], excZ]) (by simp [results, Tryz.results70, go_sem]) rfl ⟨rfl, by (repeat (first | exact Below.refl _ _ | assumption | refine Below.drewN ?_ _ | refine Below.drew ?_ | refine Below.alloc ?_ (by (try simp only [World.size_alloc, size_drewN, size_setCell]); omega) _ | refine Below.setCell ?_ (by (try simp only [World.size_alloc, size_drewN, size_setCell]); omega) _))⟩
end
end Go.Proofs.YtellmfimmghidaaGreat
