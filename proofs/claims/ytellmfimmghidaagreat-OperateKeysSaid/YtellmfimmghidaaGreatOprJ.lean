/- ch 16: change, SetIndex, DelIndex. -/
import Derived.Test.YtellmfimmghidaaGreatOprI
namespace Go.Proofs.YtellmfimmghidaaGreat
set_option linter.unusedSimpArgs false
open Go.RowKit
set_option linter.unusedVariables false
theorem erase_at {α : Type} {l : List α} {i j : Nat} {a : α} (hne : i ≠ j) (hj : l[j]? = some a) : ∃ k : Nat, (l.eraseIdx i)[k]? = some a := by
  rcases Nat.lt_or_gt_of_ne hne with h | h
  · refine ⟨j - 1, ?_⟩
    rw [List.getElem?_eraseIdx, if_neg (by omega), show j - 1 + 1 = j by omega]; exact hj
  · refine ⟨j, ?_⟩
    rw [List.getElem?_eraseIdx, if_pos (by omega)]; exact hj
theorem seesV_none (W : World) : SeesV W (.slice none 0 0) [] := ⟨none, 0, rfl, Nat.le_refl _, by unfold maxLen; omega, .inl rfl⟩
section
variable {w W : World} {Rs : List Res} {h : Nat} {H : HeapM}
set_option maxRecDepth 100000 in
set_option maxHeartbeats 12800000 in
theorem set_pair (S : Sep w Rs W) (i : Nat) (hi : Rs[i]? = some (heapR h H)) {p4 p5 p6 p7 i4 i5 i6 i7 : Nat} (h4 : Rs[i4]? = some (boxR p4 (.cells #[.pointer (some ⟨h, 0, none⟩)] 31))) (x y z : V) (h5 : Rs[i5]? = some (boxV p5 x)) (h6 : Rs[i6]? = some (boxV p6 y)) (h7 : Rs[i7]? = some (boxV p7 z)) (hc : H.canPut x y = true) : Calls Tryz.prog 83 #[.pointer (some ⟨p4, 0, none⟩), .pointer (some ⟨p5, 0, none⟩), .pointer (some ⟨p6, 0, none⟩), .pointer (some ⟨p7, 0, none⟩)] W fun e W' => e = .returned (excZ) ∧ Sep w (Rs.set i (heapR h (H.put x y z))) W' := by
  obtain ⟨b, hb⟩ : ∃ gx_, (W.heap.size) = gx_ := ⟨_, rfl⟩
  replace S := (S.alloc (.cells #[.string ⟨#[]⟩, .int .i64 0, .int .i64 0, .string ⟨#[]⟩, .bool false] 38))
  simp only [World.size_alloc, hb] at S
  replace S : Sep w (boxE b :: Rs) (W.alloc (.cells #[.string ⟨#[]⟩, .int .i64 0, .int .i64 0, .string ⟨#[]⟩, .bool false] 38)) := S
  obtain ⟨bA, hbs⟩ : ∃ l, l = Rs := ⟨_, rfl⟩
  have HBS := Lib.hid hbs
  replace S : Sep w ([boxE b] ++ bA) (W.alloc (.cells #[.string ⟨#[]⟩, .int .i64 0, .int .i64 0, .string ⟨#[]⟩, .bool false] 38)) := by
    rw [hbs]
    refine (show Sep w ([boxE b] ++ Rs) _ from S).perm ?_
    exact (show ([boxE b] ++ Rs).Perm ([boxE b] ++ ([] ++ Rs)) from by rw [← List.append_assoc]; exact List.Perm.append_right Rs (by exact perm_of [0] (by show (List.range' 0 1).Perm [0]; decide) (by rfl)))
  clear hbs
  replace S := Lib.hid S
  go_enter Tryz.func83, Tryz.ntmps83
  go_upto_region 1 with fail
  try simp only [World.size_alloc, hb]
  clear hb
  replace S := S.out
  rw [HBS.out] at S
  have d0 := cellAt (S.box (b := p4) (i4 + 1) (by simpa using h4)) 0 (v := .pointer (some ⟨h, 0, none⟩)) rfl
  have d1 := cellAt (S.box (b := p5) (i5 + 1) (by simpa using h5)) 0 (v := .int .i64 x.kind) rfl
  have d2 := cellAt (S.box (b := p5) (i5 + 1) (by simpa using h5)) 1 (v := .int .i64 x.n) rfl
  have d3 := cellAt (S.box (b := p5) (i5 + 1) (by simpa using h5)) 2 (v := .string x.s) rfl
  have d4 := cellAt (S.box (b := p6) (i6 + 1) (by simpa using h6)) 0 (v := .int .i64 y.kind) rfl
  have d5 := cellAt (S.box (b := p6) (i6 + 1) (by simpa using h6)) 1 (v := .int .i64 y.n) rfl
  have d6 := cellAt (S.box (b := p6) (i6 + 1) (by simpa using h6)) 2 (v := .string y.s) rfl
  have d7 := cellAt (S.box (b := p7) (i7 + 1) (by simpa using h7)) 0 (v := .int .i64 z.kind) rfl
  have d8 := cellAt (S.box (b := p7) (i7 + 1) (by simpa using h7)) 1 (v := .int .i64 z.n) rfl
  have d9 := cellAt (S.box (b := p7) (i7 + 1) (by simpa using h7)) 2 (v := .string z.s) rfl
  have M := Lib.hid (((S.put (i + 1) (by simpa using hi) x y z).mono fun e W' hh => (⟨by rw [hh.1, hc], hh.2⟩ : _ ∧ _) : Calls Tryz.prog 32 #[.pointer (some ⟨h, 0, none⟩), .agg #[.int .i64 x.kind, .int .i64 x.n, .string x.s], .agg #[.int .i64 y.kind, .int .i64 y.n, .string y.s], .agg #[.int .i64 z.kind, .int .i64 z.n, .string z.s]] _ fun e W' => e = .returned (.bool true) ∧ Sep w (boxE b :: Rs.set i (heapR h (H.put x y z))) W'))
  clear S
  go_wp2_with fail
  refine M.out.mono ?_
  rintro e v1 ⟨rfl, S⟩
  clear M d0 d1 d2 d3 d4 d5 d6 d7 d8 d9
  obtain ⟨bB, hbs⟩ : ∃ l, l = Rs.set i (heapR h (H.put x y z)) := ⟨_, rfl⟩
  have HBSbB := Lib.hid hbs
  replace S : Sep w ([boxE b] ++ bB) v1 := by rw [hbs]; exact S
  clear hbs HBS
  have HBS := HBSbB
  clear HBSbB
  replace S := Lib.hid S
  go_upto_region 3 with fail
  refine regionL (E := [boxE b]) (base := bB) S.out ?_
  clear S
  refine quietL ?_
  simp only [Act.put, pa]; try dsimp only [List.set]
  refine detL undef [boxE b] (h1 := fun Wx hSw => by (have hz := hSw.box (b := b) (o := objE) 0 rfl; refine useZ5 hz fun z0 z1 z2 z3 z4 y0 y1 y2 y3 y4 => ?_; go_simp; exact ⟨rfl, hSw.set5 0 rfl (.string ⟨#[]⟩) (.int .i64 0) (.int .i64 0) (.string ⟨#[]⟩) (.bool false)⟩)) (h2 := ?_)
  simp only [Act.put, pa]; try dsimp only [List.set]
  intro w2 S
  replace S := Lib.hid S
  replace S := S.out
  refine useR5 (S.box (b := b) (o := objE) 0 rfl) fun r0 r1 r2 r3 r4 => ?_
  replace S := Lib.hid S
  go_wp2
  refine bodyPost_ret (v := excZ) (by simp [results, Tryz.results83, go_sem, r0, r1, r2, r3, r4]) rfl ⟨rfl, ?_⟩
  replace S := S.out
  rw [HBS.out] at S
  exact S.tail
set_option maxRecDepth 100000 in
set_option maxHeartbeats 12800000 in
theorem del_pair (S : Sep w Rs W) (i : Nat) (hi : Rs[i]? = some (heapR h H)) {p4 p5 p6 i4 i5 i6 : Nat} (h4 : Rs[i4]? = some (boxR p4 (.cells #[.pointer (some ⟨h, 0, none⟩)] 31))) (x y : V) (h5 : Rs[i5]? = some (boxV p5 x)) (h6 : Rs[i6]? = some (boxV p6 y)) (hne : i ≠ i6) (hc : H.has x y = true) : Calls Tryz.prog 85 #[.pointer (some ⟨p4, 0, none⟩), .pointer (some ⟨p5, 0, none⟩), .pointer (some ⟨p6, 0, none⟩)] W fun e W' => e = .returned (excZ) ∧ Sep w (Rs.set i (heapR h (H.del x y))) W' := by
  obtain ⟨b, hb⟩ : ∃ gx_, (W.heap.size) = gx_ := ⟨_, rfl⟩
  replace S := (S.alloc (.cells #[.string ⟨#[]⟩, .int .i64 0, .int .i64 0, .string ⟨#[]⟩, .bool false] 38))
  simp only [World.size_alloc, hb] at S
  replace S : Sep w (boxE b :: Rs) (W.alloc (.cells #[.string ⟨#[]⟩, .int .i64 0, .int .i64 0, .string ⟨#[]⟩, .bool false] 38)) := S
  obtain ⟨bA, hbs⟩ : ∃ l, l = Rs := ⟨_, rfl⟩
  have HBS := Lib.hid hbs
  replace S : Sep w ([boxE b] ++ bA) (W.alloc (.cells #[.string ⟨#[]⟩, .int .i64 0, .int .i64 0, .string ⟨#[]⟩, .bool false] 38)) := by
    rw [hbs]
    refine (show Sep w ([boxE b] ++ Rs) _ from S).perm ?_
    exact (show ([boxE b] ++ Rs).Perm ([boxE b] ++ ([] ++ Rs)) from by rw [← List.append_assoc]; exact List.Perm.append_right Rs (by exact perm_of [0] (by show (List.range' 0 1).Perm [0]; decide) (by rfl)))
  clear hbs
  replace S := Lib.hid S
  go_enter Tryz.func85, Tryz.ntmps85
  go_upto_region 1 with fail
  try simp only [World.size_alloc, hb]
  clear hb
  replace S := S.out
  rw [HBS.out] at S
  have d0 := cellAt (S.box (b := p4) (i4 + 1) (by simpa using h4)) 0 (v := .pointer (some ⟨h, 0, none⟩)) rfl
  have d1 := cellAt (S.box (b := p5) (i5 + 1) (by simpa using h5)) 0 (v := .int .i64 x.kind) rfl
  have d2 := cellAt (S.box (b := p5) (i5 + 1) (by simpa using h5)) 1 (v := .int .i64 x.n) rfl
  have d3 := cellAt (S.box (b := p5) (i5 + 1) (by simpa using h5)) 2 (v := .string x.s) rfl
  have d4 := cellAt (S.box (b := p6) (i6 + 1) (by simpa using h6)) 0 (v := .int .i64 y.kind) rfl
  have d5 := cellAt (S.box (b := p6) (i6 + 1) (by simpa using h6)) 1 (v := .int .i64 y.n) rfl
  have d6 := cellAt (S.box (b := p6) (i6 + 1) (by simpa using h6)) 2 (v := .string y.s) rfl
  have M := Lib.hid (((S.del (i + 1) (by simpa using hi) x y).mono fun e W' hh => (⟨by rw [hh.1, hc], hh.2⟩ : _ ∧ _) : Calls Tryz.prog 86 #[.pointer (some ⟨h, 0, none⟩), .agg #[.int .i64 x.kind, .int .i64 x.n, .string x.s], .agg #[.int .i64 y.kind, .int .i64 y.n, .string y.s]] _ fun e W' => e = .returned (.bool true) ∧ Sep w (boxE b :: Rs.set i (heapR h (H.del x y))) W'))
  clear S
  go_wp2_with fail
  refine M.out.mono ?_
  rintro e v1 ⟨rfl, S⟩
  clear M d0 d1 d2 d3 d4 d5 d6
  obtain ⟨bB, hbs⟩ : ∃ l, l = Rs.set i (heapR h (H.del x y)) := ⟨_, rfl⟩
  have HBSbB := Lib.hid hbs
  replace S : Sep w ([boxE b] ++ bB) v1 := by rw [hbs]; exact S
  clear hbs HBS
  have HBS := HBSbB
  clear HBSbB
  replace S := Lib.hid S
  go_upto_region 3 with fail
  refine regionL (E := [boxE b]) (base := bB) S.out ?_
  clear S
  refine quietL ?_
  simp only [Act.put, pa]; try dsimp only [List.set]
  refine detL undef [boxE b] (h1 := fun Wx hSw => by (have hz := hSw.box (b := b) (o := objE) 0 rfl; refine useZ5 hz fun z0 z1 z2 z3 z4 y0 y1 y2 y3 y4 => ?_; go_simp; exact ⟨rfl, hSw.set5 0 rfl (.string ⟨#[]⟩) (.int .i64 0) (.int .i64 0) (.string ⟨#[]⟩) (.bool false)⟩)) (h2 := ?_)
  simp only [Act.put, pa]; try dsimp only [List.set]
  intro w2 S
  replace S := Lib.hid S
  replace S := S.out
  refine useR5 (S.box (b := b) (o := objE) 0 rfl) fun r0 r1 r2 r3 r4 => ?_
  replace S := Lib.hid S
  go_wp2
  refine bodyPost_ret (v := excZ) (by simp [results, Tryz.results85, go_sem, r0, r1, r2, r3, r4]) rfl ⟨rfl, ?_⟩
  replace S := S.out
  rw [HBS.out] at S
  exact S.tail
set_option maxRecDepth 100000 in
set_option maxHeartbeats 12800000 in
theorem del_pair_no (S : Sep w Rs W) (i : Nat) (hi : Rs[i]? = some (heapR h H)) {p4 p5 p6 i4 i5 i6 : Nat} (h4 : Rs[i4]? = some (boxR p4 (.cells #[.pointer (some ⟨h, 0, none⟩)] 31))) (x y : V) (h5 : Rs[i5]? = some (boxV p5 x)) (h6 : Rs[i6]? = some (boxV p6 y)) (hne : i ≠ i6) (hc : H.has x y = false) : Calls Tryz.prog 85 #[.pointer (some ⟨p4, 0, none⟩), .pointer (some ⟨p5, 0, none⟩), .pointer (some ⟨p6, 0, none⟩)] W fun e W' => e = .returned (.agg #[.string keyError, .int .i64 y.kind, .int .i64 y.n, .string y.s, .bool true]) ∧ Sep w (Rs.set i (heapR h (H.del x y))) W' := by
  obtain ⟨b, hb⟩ : ∃ gx_, (W.heap.size) = gx_ := ⟨_, rfl⟩
  replace S := (S.alloc (.cells #[.string ⟨#[]⟩, .int .i64 0, .int .i64 0, .string ⟨#[]⟩, .bool false] 38))
  simp only [World.size_alloc, hb] at S
  replace S : Sep w (boxE b :: Rs) (W.alloc (.cells #[.string ⟨#[]⟩, .int .i64 0, .int .i64 0, .string ⟨#[]⟩, .bool false] 38)) := S
  obtain ⟨bA, hbs⟩ : ∃ l, l = Rs := ⟨_, rfl⟩
  have HBS := Lib.hid hbs
  replace S : Sep w ([boxE b] ++ bA) (W.alloc (.cells #[.string ⟨#[]⟩, .int .i64 0, .int .i64 0, .string ⟨#[]⟩, .bool false] 38)) := by
    rw [hbs]
    refine (show Sep w ([boxE b] ++ Rs) _ from S).perm ?_
    exact (show ([boxE b] ++ Rs).Perm ([boxE b] ++ ([] ++ Rs)) from by rw [← List.append_assoc]; exact List.Perm.append_right Rs (by exact perm_of [0] (by show (List.range' 0 1).Perm [0]; decide) (by rfl)))
  clear hbs
  replace S := Lib.hid S
  go_enter Tryz.func85, Tryz.ntmps85
  go_upto_region 1 with fail
  try simp only [World.size_alloc, hb]
  clear hb
  replace S := S.out
  rw [HBS.out] at S
  have d0 := cellAt (S.box (b := p4) (i4 + 1) (by simpa using h4)) 0 (v := .pointer (some ⟨h, 0, none⟩)) rfl
  have d1 := cellAt (S.box (b := p5) (i5 + 1) (by simpa using h5)) 0 (v := .int .i64 x.kind) rfl
  have d2 := cellAt (S.box (b := p5) (i5 + 1) (by simpa using h5)) 1 (v := .int .i64 x.n) rfl
  have d3 := cellAt (S.box (b := p5) (i5 + 1) (by simpa using h5)) 2 (v := .string x.s) rfl
  have d4 := cellAt (S.box (b := p6) (i6 + 1) (by simpa using h6)) 0 (v := .int .i64 y.kind) rfl
  have d5 := cellAt (S.box (b := p6) (i6 + 1) (by simpa using h6)) 1 (v := .int .i64 y.n) rfl
  have d6 := cellAt (S.box (b := p6) (i6 + 1) (by simpa using h6)) 2 (v := .string y.s) rfl
  have M := Lib.hid (((S.del (i + 1) (by simpa using hi) x y).mono fun e W' hh => (⟨by rw [hh.1, hc], hh.2⟩ : _ ∧ _) : Calls Tryz.prog 86 #[.pointer (some ⟨h, 0, none⟩), .agg #[.int .i64 x.kind, .int .i64 x.n, .string x.s], .agg #[.int .i64 y.kind, .int .i64 y.n, .string y.s]] _ fun e W' => e = .returned (.bool false) ∧ Sep w (boxE b :: Rs.set i (heapR h (H.del x y))) W'))
  clear S
  go_wp2_with fail
  refine M.out.mono ?_
  rintro e v1 ⟨rfl, S⟩
  clear M d0 d1 d2 d3 d4 d5 d6
  obtain ⟨bB, hbs⟩ : ∃ l, l = Rs.set i (heapR h (H.del x y)) := ⟨_, rfl⟩
  have HBSbB := Lib.hid hbs
  replace S : Sep w ([boxE b] ++ bB) v1 := by rw [hbs]; exact S
  clear hbs HBS
  have HBS := HBSbB
  clear HBSbB
  replace S := Lib.hid S
  have KO : Hid (∀ W (Q : List Res), Sep w (Q ++ bB) W → Calls Tryz.prog 76 #[.agg #[.int .i64 y.kind, .int .i64 y.n, .string y.s]] W fun e W' => e = .returned (.agg #[.string keyError, .int .i64 y.kind, .int .i64 y.n, .string y.s, .bool true]) ∧ Sep w (Q ++ bB) W') := Lib.hid fun W Q T => by
    exact lost_ok T y
  have C6 : Hid (∀ W (Q : List Res), Sep w (Q ++ bB) W → W.cell? ⟨p6, 0, none⟩ = some (.int .i64 y.kind) ∧ W.cell? ⟨p6, 1, none⟩ = some (.int .i64 y.n) ∧ W.cell? ⟨p6, 2, none⟩ = some (.string y.s)) := Lib.hid fun W Q T => by
    rw [HBS.out] at T
    have i0 := T.box (b := p6) (o := objV y) (Q.length + i6) (by rw [List.getElem?_append_right (by omega), Nat.add_sub_cancel_left, List.getElem?_set_ne hne]; exact h6)
    exact ⟨cellAt i0 0 rfl, cellAt i0 1 rfl, cellAt i0 2 rfl⟩
  go_upto_region 2 with fail
  refine regionL (E := [boxE b]) (base := bB) S.out ?_
  clear S
  refine quietL (hy := fun E Wx hSw => by ((refine and3 (C6.out _ _ hSw) fun u0 u1 u2 => ?_); go_simp; exact ⟨rfl, hSw⟩)) (h := ?_)
  simp only [Act.put, pa]; try dsimp only [List.set]
  refine quietL (hy := fun E Wx hSw => by (go_simp; exact symCall (KO.out _ _ hSw))) (h := ?_)
  simp only [Act.put, pa]; try dsimp only [List.set]
  refine detL undef [boxX b keyError y.kind y.n y.s true] (h1 := fun Wx hSw => by (have hz := hSw.box (b := b) (o := objE) 0 rfl; refine useZ5 hz fun z0 z1 z2 z3 z4 y0 y1 y2 y3 y4 => ?_; go_simp; exact ⟨rfl, hSw.set5 0 rfl (.string keyError) (.int .i64 y.kind) (.int .i64 y.n) (.string y.s) (.bool true)⟩)) (h2 := ?_)
  simp only [Act.put, pa]; try dsimp only [List.set]
  intro w2 S
  replace S := Lib.hid S
  replace S := S.out
  refine useR5 (S.box (b := b) (o := objX keyError y.kind y.n y.s true) 0 rfl) fun r0 r1 r2 r3 r4 => ?_
  replace S := Lib.hid S
  go_wp2
  refine bodyPost_ret (v := .agg #[.string keyError, .int .i64 y.kind, .int .i64 y.n, .string y.s, .bool true]) (by simp [results, Tryz.results85, go_sem, r0, r1, r2, r3, r4]) rfl ⟨rfl, ?_⟩
  replace S := S.out
  rw [HBS.out] at S
  exact S.tail
set_option maxRecDepth 100000 in
set_option maxHeartbeats 12800000 in
theorem chg_w2 (S : Sep w Rs W) (i : Nat) (hi : Rs[i]? = some (heapR h H)) {N : Nat} (G : H.Good N) (hN : N ≤ 4000000) (x y : V) (fi fp : Value) (hl : ¬ H.kind x = 1) (hd : H.kind x = 3) (hk : y.isKey = false) : Calls Tryz.prog 80 #[.pointer (some ⟨h, 0, none⟩), .agg #[.int .i64 x.kind, .int .i64 x.n, .string x.s], .agg #[.int .i64 y.kind, .int .i64 y.n, .string y.s], fi, fp] W fun e W' => e = .returned (excN typeError) ∧ Sep w Rs W' := by
  obtain ⟨kx, hK⟩ : ∃ k, H.kind x = k := ⟨_, rfl⟩
  have hk1 : (kx == 1) = false := by rw [← hK]; simpa using hl
  have hk3 : (kx == 3) = true := by rw [← hK]; simp [hd]
  have HK := Lib.hid hK
  have HKEY := Lib.hid hk
  clear hK hl hd hk
  obtain ⟨b, hb⟩ : ∃ gx_, (W.heap.size) = gx_ := ⟨_, rfl⟩
  replace S := (((S.alloc (.cells #[.int .i64 x.kind, .int .i64 x.n, .string x.s] 29)).alloc (.cells #[.int .i64 y.kind, .int .i64 y.n, .string y.s] 29)).alloc (.cells #[.string ⟨#[]⟩, .int .i64 0, .int .i64 0, .string ⟨#[]⟩, .bool false] 38))
  simp only [World.size_alloc, hb] at S
  replace S : Sep w (boxE (b + 1 + 1) :: boxV (b + 1) y :: boxV b x :: Rs) (((W.alloc (.cells #[.int .i64 x.kind, .int .i64 x.n, .string x.s] 29)).alloc (.cells #[.int .i64 y.kind, .int .i64 y.n, .string y.s] 29)).alloc (.cells #[.string ⟨#[]⟩, .int .i64 0, .int .i64 0, .string ⟨#[]⟩, .bool false] 38)) := S
  obtain ⟨bA, hbs⟩ : ∃ l, l = boxV (b + 1) y :: boxV b x :: Rs := ⟨_, rfl⟩
  have HBS := Lib.hid hbs
  replace S : Sep w ([boxE (b + 1 + 1)] ++ bA) (((W.alloc (.cells #[.int .i64 x.kind, .int .i64 x.n, .string x.s] 29)).alloc (.cells #[.int .i64 y.kind, .int .i64 y.n, .string y.s] 29)).alloc (.cells #[.string ⟨#[]⟩, .int .i64 0, .int .i64 0, .string ⟨#[]⟩, .bool false] 38)) := by
    rw [hbs]
    refine (show Sep w ([boxE (b + 1 + 1), boxV (b + 1) y, boxV b x] ++ Rs) _ from S).perm ?_
    exact (show ([boxE (b + 1 + 1), boxV (b + 1) y, boxV b x] ++ Rs).Perm ([boxE (b + 1 + 1)] ++ ([boxV (b + 1) y, boxV b x] ++ Rs)) from by rw [← List.append_assoc]; exact List.Perm.append_right Rs (by exact perm_of [0, 1, 2] (by show (List.range' 0 3).Perm [0, 1, 2]; decide) (by rfl)))
  have C1 : Hid (∀ W (Q : List Res), Sep w (Q ++ bA) W → W.cell? ⟨b + 1, 0, none⟩ = some (.int .i64 y.kind) ∧ W.cell? ⟨b + 1, 1, none⟩ = some (.int .i64 y.n) ∧ W.cell? ⟨b + 1, 2, none⟩ = some (.string y.s)) := Lib.hid fun W Q T => by
    rw [hbs] at T
    have i0 := T.box (b := b + 1) (o := objV y) (Q.length + 0) (by rw [List.getElem?_append_right (by omega), Nat.add_sub_cancel_left]; rfl)
    exact ⟨cellAt i0 0 rfl, cellAt i0 1 rfl, cellAt i0 2 rfl⟩
  have C0 : Hid (∀ W (Q : List Res), Sep w (Q ++ bA) W → W.cell? ⟨b, 0, none⟩ = some (.int .i64 x.kind) ∧ W.cell? ⟨b, 1, none⟩ = some (.int .i64 x.n) ∧ W.cell? ⟨b, 2, none⟩ = some (.string x.s)) := Lib.hid fun W Q T => by
    rw [hbs] at T
    have i0 := T.box (b := b) (o := objV x) (Q.length + 1) (by rw [List.getElem?_append_right (by omega), Nat.add_sub_cancel_left]; rfl)
    exact ⟨cellAt i0 0 rfl, cellAt i0 1 rfl, cellAt i0 2 rfl⟩
  clear hbs
  replace S := Lib.hid S
  go_enter Tryz.func80, Tryz.ntmps80
  go_upto_region 1 with fail
  try simp only [World.size_alloc, hb]
  clear hb
  have KK : Hid (∀ W (Q : List Res), Sep w (Q ++ bA) W → Calls Tryz.prog 30 #[.pointer (some ⟨h, 0, none⟩), .agg #[.int .i64 x.kind, .int .i64 x.n, .string x.s]] W fun e W' => e = .returned (.int .i64 kx) ∧ Sep w (Q ++ bA) W') := Lib.hid fun W Q T => by
    rw [HBS.out] at T ⊢
    exact kind_at T (Q.length + 2 + i) (by rw [List.getElem?_append_right (by omega), show Q.length + 2 + i - Q.length = i + 2 by omega]; simpa using hi) x kx HK.out
  refine regionL (E := [boxE (b + 1 + 1)]) (base := bA) S.out ?_
  clear S
  refine quietL ?_
  simp only [Act.put, pa]; try dsimp only [List.set]
  refine quietL (hy := fun E Wx hSw => by ((refine and3 (C0.out _ _ hSw) fun u0 u1 u2 => ?_); go_simp; exact ⟨rfl, hSw⟩)) (h := ?_)
  simp only [Act.put, pa]; try dsimp only [List.set]
  refine quietL (hy := fun E Wx hSw => by (go_simp; exact symCall (KK.out _ _ hSw))) (h := ?_)
  simp only [Act.put, pa]; try dsimp only [List.set]
  iterate 2 (refine quietL ?_; simp only [Act.put, pa]; try dsimp only [List.set])
  iterate 3 (refine skipL ?_; simp only [Act.put, pa]; try dsimp only [List.set])
  iterate 2 (refine quietL ?_; simp only [Act.put, pa]; try dsimp only [List.set])
  intro w1 S
  replace S := Lib.hid S
  have KY : Hid (∀ W (Q : List Res), Sep w (Q ++ bA) W → Calls Tryz.prog 75 #[.agg #[.int .i64 y.kind, .int .i64 y.n, .string y.s]] W fun e W' => e = .returned (.bool false) ∧ Sep w (Q ++ bA) W') := Lib.hid fun W Q T => by
    have hh := dict_key W y
    rw [HKEY.out] at hh
    exact hh.mono fun e W' ⟨e1, e2⟩ => ⟨e1, T.later e2⟩
  go_upto_region 7 with fail
  refine regionL (E := [boxE (b + 1 + 1)]) (base := bA) S.out ?_
  clear S
  refine quietL ?_
  simp only [Act.put, pa]; try dsimp only [List.set]
  refine quietL (hy := fun E Wx hSw => by ((refine and3 (C0.out _ _ hSw) fun u0 u1 u2 => ?_); go_simp; exact ⟨rfl, hSw⟩)) (h := ?_)
  simp only [Act.put, pa]; try dsimp only [List.set]
  refine quietL (hy := fun E Wx hSw => by (go_simp; exact symCall (KK.out _ _ hSw))) (h := ?_)
  simp only [Act.put, pa]; try dsimp only [List.set]
  iterate 2 (refine quietL ?_; simp only [Act.put, pa]; try dsimp only [List.set])
  refine quietL (hy := fun E Wx hSw => by ((refine and3 (C1.out _ _ hSw) fun u0 u1 u2 => ?_); go_simp; exact ⟨rfl, hSw⟩)) (h := ?_)
  simp only [Act.put, pa]; try dsimp only [List.set]
  refine quietL (hy := fun E Wx hSw => by (go_simp; exact symCall (KY.out _ _ hSw))) (h := ?_)
  simp only [Act.put, pa]; try dsimp only [List.set]
  iterate 2 (refine quietL ?_; simp only [Act.put, pa]; try dsimp only [List.set])
  intro w2 S
  replace S := Lib.hid S
  have KQ : Hid (∀ W (Q : List Res), Sep w (Q ++ bA) W → Calls Tryz.prog 57 #[.string typeError] W fun e W' => e = .returned (excN typeError) ∧ Sep w (Q ++ bA) W') := Lib.hid fun W Q T => by
    exact (raise_ok W _).mono fun e W' ⟨e1, e2⟩ => ⟨e1, T.later e2⟩
  go_upto_region 9 with fail
  refine regionL (E := [boxE (b + 1 + 1)]) (base := bA) S.out ?_
  clear S
  refine quietL (hy := fun E Wx hSw => by (go_simp; exact symCall (KQ.out _ _ hSw))) (h := ?_)
  simp only [Act.put, pa]; try dsimp only [List.set]
  refine detL undef [boxN (b + 1 + 1) typeError] (h1 := fun Wx hSw => by (have hz := hSw.box (b := (b + 1 + 1)) (o := objE) 0 rfl; refine useZ5 hz fun z0 z1 z2 z3 z4 y0 y1 y2 y3 y4 => ?_; go_simp; exact ⟨rfl, hSw.set5 0 rfl (.string typeError) (.int .i64 0) (.int .i64 0) (.string ⟨#[]⟩) (.bool false)⟩)) (h2 := ?_)
  simp only [Act.put, pa]; try dsimp only [List.set]
  intro w3 S
  replace S := Lib.hid S
  replace S := S.out
  refine useR5 (S.box (b := b + 1 + 1) (o := objN typeError) 0 rfl) fun r0 r1 r2 r3 r4 => ?_
  replace S := Lib.hid S
  go_wp2
  refine bodyPost_ret (v := excN typeError) (by simp [results, Tryz.results80, go_sem, r0, r1, r2, r3, r4]) rfl ⟨rfl, ?_⟩
  replace S := S.out
  rw [HBS.out] at S
  exact S.tail.tail.tail
set_option maxRecDepth 100000 in
set_option maxHeartbeats 12800000 in
theorem chg_put (S : Sep w Rs W) (i : Nat) (hi : Rs[i]? = some (heapR h H)) (x y z : V) {p4 p5 p6 p7 i4 i5 i6 i7 : Nat} (h4 : Rs[i4]? = some (boxR p4 (.cells #[.pointer (some ⟨h, 0, none⟩)] 31)))(h5 : Rs[i5]? = some (boxV p5 x))(h6 : Rs[i6]? = some (boxV p6 y))(h7 : Rs[i7]? = some (boxV p7 z))(n4 : i ≠ i4) (n5 : i ≠ i5) (n6 : i ≠ i6) (n7 : i ≠ i7) (fi : Value) (hl : ¬ H.kind x = 1) (hd : H.kind x = 3) (hk : y.isKey = true) (hc : H.canPut x y = true) : Calls Tryz.prog 80 #[.pointer (some ⟨h, 0, none⟩), .agg #[.int .i64 x.kind, .int .i64 x.n, .string x.s], .agg #[.int .i64 y.kind, .int .i64 y.n, .string y.s], fi, .func (.func 83) #[] #[.pointer (some ⟨p4, 0, none⟩), .pointer (some ⟨p5, 0, none⟩), .pointer (some ⟨p6, 0, none⟩), .pointer (some ⟨p7, 0, none⟩)]] W fun e W' => e = .returned (excZ) ∧ Sep w (Rs.set i (heapR h (H.put x y z))) W' := by
  obtain ⟨kx, hK⟩ : ∃ k, H.kind x = k := ⟨_, rfl⟩
  have hk1 : (kx == 1) = false := by rw [← hK]; simpa using hl
  have hk3 : (kx == 3) = true := by rw [← hK]; simp [hd]
  have HK := Lib.hid hK
  have HKEY := Lib.hid hk
  clear hK hl hd hk
  obtain ⟨b, hb⟩ : ∃ gx_, (W.heap.size) = gx_ := ⟨_, rfl⟩
  replace S := (((S.alloc (.cells #[.int .i64 x.kind, .int .i64 x.n, .string x.s] 29)).alloc (.cells #[.int .i64 y.kind, .int .i64 y.n, .string y.s] 29)).alloc (.cells #[.string ⟨#[]⟩, .int .i64 0, .int .i64 0, .string ⟨#[]⟩, .bool false] 38))
  simp only [World.size_alloc, hb] at S
  replace S : Sep w (boxE (b + 1 + 1) :: boxV (b + 1) y :: boxV b x :: Rs) (((W.alloc (.cells #[.int .i64 x.kind, .int .i64 x.n, .string x.s] 29)).alloc (.cells #[.int .i64 y.kind, .int .i64 y.n, .string y.s] 29)).alloc (.cells #[.string ⟨#[]⟩, .int .i64 0, .int .i64 0, .string ⟨#[]⟩, .bool false] 38)) := S
  obtain ⟨Rt, hRt⟩ : ∃ l, l = Rs.eraseIdx i := ⟨_, rfl⟩
  have HF : Hid (∀ H' W', Sep w (heapR h H' :: Rt) W' → Sep w (Rs.set i (heapR h H')) W') := Lib.hid fun H' W' T => by rw [hRt] at T; exact T.perm (perm_push hi).symm
  obtain ⟨bA, hbs⟩ : ∃ l, l = boxV (b + 1) y :: boxV b x :: Rt := ⟨_, rfl⟩
  have HBS := Lib.hid hbs
  replace S : Sep w ([boxE (b + 1 + 1), heapR h H] ++ bA) (((W.alloc (.cells #[.int .i64 x.kind, .int .i64 x.n, .string x.s] 29)).alloc (.cells #[.int .i64 y.kind, .int .i64 y.n, .string y.s] 29)).alloc (.cells #[.string ⟨#[]⟩, .int .i64 0, .int .i64 0, .string ⟨#[]⟩, .bool false] 38)) := by
    rw [hbs]
    refine (show Sep w ([boxE (b + 1 + 1), boxV (b + 1) y, boxV b x] ++ Rs) _ from S).perm ?_
    have e : Rs.Perm (heapR h H :: Rt) := by rw [hRt]; exact perm_pull hi
    refine (List.Perm.append_left _ e).trans ?_
    exact (show ([boxE (b + 1 + 1), boxV (b + 1) y, boxV b x] ++ ([heapR h H] ++ Rt)).Perm ([boxE (b + 1 + 1), heapR h H] ++ ([boxV (b + 1) y, boxV b x] ++ Rt)) from by rw [← List.append_assoc, ← List.append_assoc]; exact List.Perm.append_right Rt (by exact perm_of [0, 3, 1, 2] (by show (List.range' 0 4).Perm [0, 3, 1, 2]; decide) (by rfl)))
  obtain ⟨k4, g4⟩ : ∃ k : Nat, Rt[k]? = some (boxR p4 (.cells #[.pointer (some ⟨h, 0, none⟩)] 31)) := by rw [hRt]; exact erase_at n4 h4
  obtain ⟨k5, g5⟩ : ∃ k : Nat, Rt[k]? = some (boxV p5 x) := by rw [hRt]; exact erase_at n5 h5
  obtain ⟨k6, g6⟩ : ∃ k : Nat, Rt[k]? = some (boxV p6 y) := by rw [hRt]; exact erase_at n6 h6
  obtain ⟨k7, g7⟩ : ∃ k : Nat, Rt[k]? = some (boxV p7 z) := by rw [hRt]; exact erase_at n7 h7
  clear hRt
  have C1 : Hid (∀ W (Q : List Res), Sep w (Q ++ bA) W → W.cell? ⟨b + 1, 0, none⟩ = some (.int .i64 y.kind) ∧ W.cell? ⟨b + 1, 1, none⟩ = some (.int .i64 y.n) ∧ W.cell? ⟨b + 1, 2, none⟩ = some (.string y.s)) := Lib.hid fun W Q T => by
    rw [hbs] at T
    have i0 := T.box (b := b + 1) (o := objV y) (Q.length + 0) (by rw [List.getElem?_append_right (by omega), Nat.add_sub_cancel_left]; rfl)
    exact ⟨cellAt i0 0 rfl, cellAt i0 1 rfl, cellAt i0 2 rfl⟩
  have C0 : Hid (∀ W (Q : List Res), Sep w (Q ++ bA) W → W.cell? ⟨b, 0, none⟩ = some (.int .i64 x.kind) ∧ W.cell? ⟨b, 1, none⟩ = some (.int .i64 x.n) ∧ W.cell? ⟨b, 2, none⟩ = some (.string x.s)) := Lib.hid fun W Q T => by
    rw [hbs] at T
    have i0 := T.box (b := b) (o := objV x) (Q.length + 1) (by rw [List.getElem?_append_right (by omega), Nat.add_sub_cancel_left]; rfl)
    exact ⟨cellAt i0 0 rfl, cellAt i0 1 rfl, cellAt i0 2 rfl⟩
  clear hbs
  replace S := Lib.hid S
  go_enter Tryz.func80, Tryz.ntmps80
  go_upto_region 1 with fail
  try simp only [World.size_alloc, hb]
  clear hb
  have HKK : Hid (∀ W (Q : List Res), Sep w (heapR h H :: (Q ++ bA)) W → True) := Lib.hid fun _ _ _ => trivial
  refine regionL (E := [boxE (b + 1 + 1), heapR h H]) (base := bA) S.out ?_
  clear S
  refine quietL ?_
  simp only [Act.put, pa]; try dsimp only [List.set]
  refine quietL (hy := fun E Wx hSw => by ((refine and3 (C0.out _ _ hSw) fun u0 u1 u2 => ?_); go_simp; exact ⟨rfl, hSw⟩)) (h := ?_)
  simp only [Act.put, pa]; try dsimp only [List.set]
  refine detL (.int .i64 kx) [boxE (b + 1 + 1), heapR h H] (h1 := fun Wx hSw => by (go_simp; refine symCall ?_; exact kind_at hSw 1 rfl x kx HK.out)) (h2 := ?_)
  simp only [Act.put, pa]; try dsimp only [List.set]
  iterate 2 (refine quietL ?_; simp only [Act.put, pa]; try dsimp only [List.set])
  iterate 3 (refine skipL ?_; simp only [Act.put, pa]; try dsimp only [List.set])
  iterate 2 (refine quietL ?_; simp only [Act.put, pa]; try dsimp only [List.set])
  intro w1 S
  replace S := Lib.hid S
  have KY : Hid (∀ W (Q : List Res), Sep w (Q ++ bA) W → Calls Tryz.prog 75 #[.agg #[.int .i64 y.kind, .int .i64 y.n, .string y.s]] W fun e W' => e = .returned (.bool true) ∧ Sep w (Q ++ bA) W') := Lib.hid fun W Q T => by
    have hh := dict_key W y
    rw [HKEY.out] at hh
    exact hh.mono fun e W' ⟨e1, e2⟩ => ⟨e1, T.later e2⟩
  go_upto_region 7 with fail
  refine regionL (E := [boxE (b + 1 + 1), heapR h H]) (base := bA) S.out ?_
  clear S
  refine quietL ?_
  simp only [Act.put, pa]; try dsimp only [List.set]
  refine quietL (hy := fun E Wx hSw => by ((refine and3 (C0.out _ _ hSw) fun u0 u1 u2 => ?_); go_simp; exact ⟨rfl, hSw⟩)) (h := ?_)
  simp only [Act.put, pa]; try dsimp only [List.set]
  refine detL (.int .i64 kx) [boxE (b + 1 + 1), heapR h H] (h1 := fun Wx hSw => by (go_simp; refine symCall ?_; exact kind_at hSw 1 rfl x kx HK.out)) (h2 := ?_)
  simp only [Act.put, pa]; try dsimp only [List.set]
  iterate 2 (refine quietL ?_; simp only [Act.put, pa]; try dsimp only [List.set])
  refine quietL (hy := fun E Wx hSw => by ((refine and3 (C1.out _ _ hSw) fun u0 u1 u2 => ?_); go_simp; exact ⟨rfl, hSw⟩)) (h := ?_)
  simp only [Act.put, pa]; try dsimp only [List.set]
  refine quietL (hy := fun E Wx hSw => by (go_simp; exact symCall (KY.out _ _ hSw))) (h := ?_)
  simp only [Act.put, pa]; try dsimp only [List.set]
  iterate 2 (refine quietL ?_; simp only [Act.put, pa]; try dsimp only [List.set])
  intro w2 S
  replace S := Lib.hid S
  go_upto_region 8 with fail
  refine regionL (E := [boxE (b + 1 + 1), heapR h H]) (base := bA) S.out ?_
  clear S
  refine quietL ?_
  simp only [Act.put, pa]; try dsimp only [List.set]
  refine detL (.agg #[.string ⟨#[]⟩, .int .i64 0, .int .i64 0, .string ⟨#[]⟩, .bool false]) [boxE (b + 1 + 1), heapR h (H.put x y z)] (h1 := fun Wx hSw => by (go_simp; refine symCall ?_; rw [HBS.out] at hSw ⊢; exact set_pair hSw 1 (by rfl) (i4 := k4 + 4) (i5 := k5 + 4) (i6 := k6 + 4) (i7 := k7 + 4) (by simpa using g4) x y z (by simpa using g5) (by simpa using g6) (by simpa using g7) hc)) (h2 := ?_)
  simp only [Act.put, pa]; try dsimp only [List.set]
  refine detL undef [boxE (b + 1 + 1), heapR h (H.put x y z)] (h1 := fun Wx hSw => by (have hz := hSw.box (b := (b + 1 + 1)) (o := objE) 0 rfl; refine useZ5 hz fun z0 z1 z2 z3 z4 y0 y1 y2 y3 y4 => ?_; go_simp; exact ⟨rfl, hSw.set5 0 rfl (.string ⟨#[]⟩) (.int .i64 0) (.int .i64 0) (.string ⟨#[]⟩) (.bool false)⟩)) (h2 := ?_)
  simp only [Act.put, pa]; try dsimp only [List.set]
  intro w3 S
  replace S := Lib.hid S
  replace S := S.out
  refine useR5 (S.box (b := b + 1 + 1) (o := objE) 0 rfl) fun r0 r1 r2 r3 r4 => ?_
  replace S := Lib.hid S
  go_wp2
  refine bodyPost_ret (v := .agg #[.string ⟨#[]⟩, .int .i64 0, .int .i64 0, .string ⟨#[]⟩, .bool false]) (by simp [results, Tryz.results80, go_sem, r0, r1, r2, r3, r4]) rfl ⟨rfl, ?_⟩
  replace S := S.out
  rw [HBS.out] at S
  exact HF.out _ _ (S.sub (Qs := heapR h (H.put x y z) :: Rt) (.cons _ (.cons_cons _ (.cons _ (.cons _ (List.Sublist.refl _))))))
set_option maxRecDepth 100000 in
set_option maxHeartbeats 12800000 in
theorem chg_rem (S : Sep w Rs W) (i : Nat) (hi : Rs[i]? = some (heapR h H)) (x y : V) {p4 p5 p6 i4 i5 i6 : Nat} (h4 : Rs[i4]? = some (boxR p4 (.cells #[.pointer (some ⟨h, 0, none⟩)] 31)))(h5 : Rs[i5]? = some (boxV p5 x))(h6 : Rs[i6]? = some (boxV p6 y))(n4 : i ≠ i4) (n5 : i ≠ i5) (n6 : i ≠ i6) (fi : Value) (hl : ¬ H.kind x = 1) (hd : H.kind x = 3) (hk : y.isKey = true) (hc : H.has x y = true) : Calls Tryz.prog 80 #[.pointer (some ⟨h, 0, none⟩), .agg #[.int .i64 x.kind, .int .i64 x.n, .string x.s], .agg #[.int .i64 y.kind, .int .i64 y.n, .string y.s], fi, .func (.func 85) #[] #[.pointer (some ⟨p4, 0, none⟩), .pointer (some ⟨p5, 0, none⟩), .pointer (some ⟨p6, 0, none⟩)]] W fun e W' => e = .returned (excZ) ∧ Sep w (Rs.set i (heapR h (H.del x y))) W' := by
  obtain ⟨kx, hK⟩ : ∃ k, H.kind x = k := ⟨_, rfl⟩
  have hk1 : (kx == 1) = false := by rw [← hK]; simpa using hl
  have hk3 : (kx == 3) = true := by rw [← hK]; simp [hd]
  have HK := Lib.hid hK
  have HKEY := Lib.hid hk
  clear hK hl hd hk
  obtain ⟨b, hb⟩ : ∃ gx_, (W.heap.size) = gx_ := ⟨_, rfl⟩
  replace S := (((S.alloc (.cells #[.int .i64 x.kind, .int .i64 x.n, .string x.s] 29)).alloc (.cells #[.int .i64 y.kind, .int .i64 y.n, .string y.s] 29)).alloc (.cells #[.string ⟨#[]⟩, .int .i64 0, .int .i64 0, .string ⟨#[]⟩, .bool false] 38))
  simp only [World.size_alloc, hb] at S
  replace S : Sep w (boxE (b + 1 + 1) :: boxV (b + 1) y :: boxV b x :: Rs) (((W.alloc (.cells #[.int .i64 x.kind, .int .i64 x.n, .string x.s] 29)).alloc (.cells #[.int .i64 y.kind, .int .i64 y.n, .string y.s] 29)).alloc (.cells #[.string ⟨#[]⟩, .int .i64 0, .int .i64 0, .string ⟨#[]⟩, .bool false] 38)) := S
  obtain ⟨Rt, hRt⟩ : ∃ l, l = Rs.eraseIdx i := ⟨_, rfl⟩
  have HF : Hid (∀ H' W', Sep w (heapR h H' :: Rt) W' → Sep w (Rs.set i (heapR h H')) W') := Lib.hid fun H' W' T => by rw [hRt] at T; exact T.perm (perm_push hi).symm
  obtain ⟨bA, hbs⟩ : ∃ l, l = boxV (b + 1) y :: boxV b x :: Rt := ⟨_, rfl⟩
  have HBS := Lib.hid hbs
  replace S : Sep w ([boxE (b + 1 + 1), heapR h H] ++ bA) (((W.alloc (.cells #[.int .i64 x.kind, .int .i64 x.n, .string x.s] 29)).alloc (.cells #[.int .i64 y.kind, .int .i64 y.n, .string y.s] 29)).alloc (.cells #[.string ⟨#[]⟩, .int .i64 0, .int .i64 0, .string ⟨#[]⟩, .bool false] 38)) := by
    rw [hbs]
    refine (show Sep w ([boxE (b + 1 + 1), boxV (b + 1) y, boxV b x] ++ Rs) _ from S).perm ?_
    have e : Rs.Perm (heapR h H :: Rt) := by rw [hRt]; exact perm_pull hi
    refine (List.Perm.append_left _ e).trans ?_
    exact (show ([boxE (b + 1 + 1), boxV (b + 1) y, boxV b x] ++ ([heapR h H] ++ Rt)).Perm ([boxE (b + 1 + 1), heapR h H] ++ ([boxV (b + 1) y, boxV b x] ++ Rt)) from by rw [← List.append_assoc, ← List.append_assoc]; exact List.Perm.append_right Rt (by exact perm_of [0, 3, 1, 2] (by show (List.range' 0 4).Perm [0, 3, 1, 2]; decide) (by rfl)))
  obtain ⟨k4, g4⟩ : ∃ k : Nat, Rt[k]? = some (boxR p4 (.cells #[.pointer (some ⟨h, 0, none⟩)] 31)) := by rw [hRt]; exact erase_at n4 h4
  obtain ⟨k5, g5⟩ : ∃ k : Nat, Rt[k]? = some (boxV p5 x) := by rw [hRt]; exact erase_at n5 h5
  obtain ⟨k6, g6⟩ : ∃ k : Nat, Rt[k]? = some (boxV p6 y) := by rw [hRt]; exact erase_at n6 h6
  clear hRt
  have C1 : Hid (∀ W (Q : List Res), Sep w (Q ++ bA) W → W.cell? ⟨b + 1, 0, none⟩ = some (.int .i64 y.kind) ∧ W.cell? ⟨b + 1, 1, none⟩ = some (.int .i64 y.n) ∧ W.cell? ⟨b + 1, 2, none⟩ = some (.string y.s)) := Lib.hid fun W Q T => by
    rw [hbs] at T
    have i0 := T.box (b := b + 1) (o := objV y) (Q.length + 0) (by rw [List.getElem?_append_right (by omega), Nat.add_sub_cancel_left]; rfl)
    exact ⟨cellAt i0 0 rfl, cellAt i0 1 rfl, cellAt i0 2 rfl⟩
  have C0 : Hid (∀ W (Q : List Res), Sep w (Q ++ bA) W → W.cell? ⟨b, 0, none⟩ = some (.int .i64 x.kind) ∧ W.cell? ⟨b, 1, none⟩ = some (.int .i64 x.n) ∧ W.cell? ⟨b, 2, none⟩ = some (.string x.s)) := Lib.hid fun W Q T => by
    rw [hbs] at T
    have i0 := T.box (b := b) (o := objV x) (Q.length + 1) (by rw [List.getElem?_append_right (by omega), Nat.add_sub_cancel_left]; rfl)
    exact ⟨cellAt i0 0 rfl, cellAt i0 1 rfl, cellAt i0 2 rfl⟩
  clear hbs
  replace S := Lib.hid S
  go_enter Tryz.func80, Tryz.ntmps80
  go_upto_region 1 with fail
  try simp only [World.size_alloc, hb]
  clear hb
  have HKK : Hid (∀ W (Q : List Res), Sep w (heapR h H :: (Q ++ bA)) W → True) := Lib.hid fun _ _ _ => trivial
  refine regionL (E := [boxE (b + 1 + 1), heapR h H]) (base := bA) S.out ?_
  clear S
  refine quietL ?_
  simp only [Act.put, pa]; try dsimp only [List.set]
  refine quietL (hy := fun E Wx hSw => by ((refine and3 (C0.out _ _ hSw) fun u0 u1 u2 => ?_); go_simp; exact ⟨rfl, hSw⟩)) (h := ?_)
  simp only [Act.put, pa]; try dsimp only [List.set]
  refine detL (.int .i64 kx) [boxE (b + 1 + 1), heapR h H] (h1 := fun Wx hSw => by (go_simp; refine symCall ?_; exact kind_at hSw 1 rfl x kx HK.out)) (h2 := ?_)
  simp only [Act.put, pa]; try dsimp only [List.set]
  iterate 2 (refine quietL ?_; simp only [Act.put, pa]; try dsimp only [List.set])
  iterate 3 (refine skipL ?_; simp only [Act.put, pa]; try dsimp only [List.set])
  iterate 2 (refine quietL ?_; simp only [Act.put, pa]; try dsimp only [List.set])
  intro w1 S
  replace S := Lib.hid S
  have KY : Hid (∀ W (Q : List Res), Sep w (Q ++ bA) W → Calls Tryz.prog 75 #[.agg #[.int .i64 y.kind, .int .i64 y.n, .string y.s]] W fun e W' => e = .returned (.bool true) ∧ Sep w (Q ++ bA) W') := Lib.hid fun W Q T => by
    have hh := dict_key W y
    rw [HKEY.out] at hh
    exact hh.mono fun e W' ⟨e1, e2⟩ => ⟨e1, T.later e2⟩
  go_upto_region 7 with fail
  refine regionL (E := [boxE (b + 1 + 1), heapR h H]) (base := bA) S.out ?_
  clear S
  refine quietL ?_
  simp only [Act.put, pa]; try dsimp only [List.set]
  refine quietL (hy := fun E Wx hSw => by ((refine and3 (C0.out _ _ hSw) fun u0 u1 u2 => ?_); go_simp; exact ⟨rfl, hSw⟩)) (h := ?_)
  simp only [Act.put, pa]; try dsimp only [List.set]
  refine detL (.int .i64 kx) [boxE (b + 1 + 1), heapR h H] (h1 := fun Wx hSw => by (go_simp; refine symCall ?_; exact kind_at hSw 1 rfl x kx HK.out)) (h2 := ?_)
  simp only [Act.put, pa]; try dsimp only [List.set]
  iterate 2 (refine quietL ?_; simp only [Act.put, pa]; try dsimp only [List.set])
  refine quietL (hy := fun E Wx hSw => by ((refine and3 (C1.out _ _ hSw) fun u0 u1 u2 => ?_); go_simp; exact ⟨rfl, hSw⟩)) (h := ?_)
  simp only [Act.put, pa]; try dsimp only [List.set]
  refine quietL (hy := fun E Wx hSw => by (go_simp; exact symCall (KY.out _ _ hSw))) (h := ?_)
  simp only [Act.put, pa]; try dsimp only [List.set]
  iterate 2 (refine quietL ?_; simp only [Act.put, pa]; try dsimp only [List.set])
  intro w2 S
  replace S := Lib.hid S
  go_upto_region 8 with fail
  refine regionL (E := [boxE (b + 1 + 1), heapR h H]) (base := bA) S.out ?_
  clear S
  refine quietL ?_
  simp only [Act.put, pa]; try dsimp only [List.set]
  refine detL (.agg #[.string ⟨#[]⟩, .int .i64 0, .int .i64 0, .string ⟨#[]⟩, .bool false]) [boxE (b + 1 + 1), heapR h (H.del x y)] (h1 := fun Wx hSw => by (go_simp; refine symCall ?_; rw [HBS.out] at hSw ⊢; exact del_pair hSw 1 (by rfl) (i4 := k4 + 4) (i5 := k5 + 4) (i6 := k6 + 4) (by simpa using g4) x y (by simpa using g5) (by simpa using g6) (by omega) hc)) (h2 := ?_)
  simp only [Act.put, pa]; try dsimp only [List.set]
  refine detL undef [boxE (b + 1 + 1), heapR h (H.del x y)] (h1 := fun Wx hSw => by (have hz := hSw.box (b := (b + 1 + 1)) (o := objE) 0 rfl; refine useZ5 hz fun z0 z1 z2 z3 z4 y0 y1 y2 y3 y4 => ?_; go_simp; exact ⟨rfl, hSw.set5 0 rfl (.string ⟨#[]⟩) (.int .i64 0) (.int .i64 0) (.string ⟨#[]⟩) (.bool false)⟩)) (h2 := ?_)
  simp only [Act.put, pa]; try dsimp only [List.set]
  intro w3 S
  replace S := Lib.hid S
  replace S := S.out
  refine useR5 (S.box (b := b + 1 + 1) (o := objE) 0 rfl) fun r0 r1 r2 r3 r4 => ?_
  replace S := Lib.hid S
  go_wp2
  refine bodyPost_ret (v := .agg #[.string ⟨#[]⟩, .int .i64 0, .int .i64 0, .string ⟨#[]⟩, .bool false]) (by simp [results, Tryz.results80, go_sem, r0, r1, r2, r3, r4]) rfl ⟨rfl, ?_⟩
  replace S := S.out
  rw [HBS.out] at S
  exact HF.out _ _ (S.sub (Qs := heapR h (H.del x y) :: Rt) (.cons _ (.cons_cons _ (.cons _ (.cons _ (List.Sublist.refl _))))))
set_option maxRecDepth 100000 in
set_option maxHeartbeats 12800000 in
theorem chg_rem_no (S : Sep w Rs W) (i : Nat) (hi : Rs[i]? = some (heapR h H)) (x y : V) {p4 p5 p6 i4 i5 i6 : Nat} (h4 : Rs[i4]? = some (boxR p4 (.cells #[.pointer (some ⟨h, 0, none⟩)] 31)))(h5 : Rs[i5]? = some (boxV p5 x))(h6 : Rs[i6]? = some (boxV p6 y))(n4 : i ≠ i4) (n5 : i ≠ i5) (n6 : i ≠ i6) (fi : Value) (hl : ¬ H.kind x = 1) (hd : H.kind x = 3) (hk : y.isKey = true) (hc : H.has x y = false) : Calls Tryz.prog 80 #[.pointer (some ⟨h, 0, none⟩), .agg #[.int .i64 x.kind, .int .i64 x.n, .string x.s], .agg #[.int .i64 y.kind, .int .i64 y.n, .string y.s], fi, .func (.func 85) #[] #[.pointer (some ⟨p4, 0, none⟩), .pointer (some ⟨p5, 0, none⟩), .pointer (some ⟨p6, 0, none⟩)]] W fun e W' => e = .returned (.agg #[.string keyError, .int .i64 y.kind, .int .i64 y.n, .string y.s, .bool true]) ∧ Sep w (Rs.set i (heapR h (H.del x y))) W' := by
  obtain ⟨kx, hK⟩ : ∃ k, H.kind x = k := ⟨_, rfl⟩
  have hk1 : (kx == 1) = false := by rw [← hK]; simpa using hl
  have hk3 : (kx == 3) = true := by rw [← hK]; simp [hd]
  have HK := Lib.hid hK
  have HKEY := Lib.hid hk
  clear hK hl hd hk
  obtain ⟨b, hb⟩ : ∃ gx_, (W.heap.size) = gx_ := ⟨_, rfl⟩
  replace S := (((S.alloc (.cells #[.int .i64 x.kind, .int .i64 x.n, .string x.s] 29)).alloc (.cells #[.int .i64 y.kind, .int .i64 y.n, .string y.s] 29)).alloc (.cells #[.string ⟨#[]⟩, .int .i64 0, .int .i64 0, .string ⟨#[]⟩, .bool false] 38))
  simp only [World.size_alloc, hb] at S
  replace S : Sep w (boxE (b + 1 + 1) :: boxV (b + 1) y :: boxV b x :: Rs) (((W.alloc (.cells #[.int .i64 x.kind, .int .i64 x.n, .string x.s] 29)).alloc (.cells #[.int .i64 y.kind, .int .i64 y.n, .string y.s] 29)).alloc (.cells #[.string ⟨#[]⟩, .int .i64 0, .int .i64 0, .string ⟨#[]⟩, .bool false] 38)) := S
  obtain ⟨Rt, hRt⟩ : ∃ l, l = Rs.eraseIdx i := ⟨_, rfl⟩
  have HF : Hid (∀ H' W', Sep w (heapR h H' :: Rt) W' → Sep w (Rs.set i (heapR h H')) W') := Lib.hid fun H' W' T => by rw [hRt] at T; exact T.perm (perm_push hi).symm
  obtain ⟨bA, hbs⟩ : ∃ l, l = boxV (b + 1) y :: boxV b x :: Rt := ⟨_, rfl⟩
  have HBS := Lib.hid hbs
  replace S : Sep w ([boxE (b + 1 + 1), heapR h H] ++ bA) (((W.alloc (.cells #[.int .i64 x.kind, .int .i64 x.n, .string x.s] 29)).alloc (.cells #[.int .i64 y.kind, .int .i64 y.n, .string y.s] 29)).alloc (.cells #[.string ⟨#[]⟩, .int .i64 0, .int .i64 0, .string ⟨#[]⟩, .bool false] 38)) := by
    rw [hbs]
    refine (show Sep w ([boxE (b + 1 + 1), boxV (b + 1) y, boxV b x] ++ Rs) _ from S).perm ?_
    have e : Rs.Perm (heapR h H :: Rt) := by rw [hRt]; exact perm_pull hi
    refine (List.Perm.append_left _ e).trans ?_
    exact (show ([boxE (b + 1 + 1), boxV (b + 1) y, boxV b x] ++ ([heapR h H] ++ Rt)).Perm ([boxE (b + 1 + 1), heapR h H] ++ ([boxV (b + 1) y, boxV b x] ++ Rt)) from by rw [← List.append_assoc, ← List.append_assoc]; exact List.Perm.append_right Rt (by exact perm_of [0, 3, 1, 2] (by show (List.range' 0 4).Perm [0, 3, 1, 2]; decide) (by rfl)))
  obtain ⟨k4, g4⟩ : ∃ k : Nat, Rt[k]? = some (boxR p4 (.cells #[.pointer (some ⟨h, 0, none⟩)] 31)) := by rw [hRt]; exact erase_at n4 h4
  obtain ⟨k5, g5⟩ : ∃ k : Nat, Rt[k]? = some (boxV p5 x) := by rw [hRt]; exact erase_at n5 h5
  obtain ⟨k6, g6⟩ : ∃ k : Nat, Rt[k]? = some (boxV p6 y) := by rw [hRt]; exact erase_at n6 h6
  clear hRt
  have C1 : Hid (∀ W (Q : List Res), Sep w (Q ++ bA) W → W.cell? ⟨b + 1, 0, none⟩ = some (.int .i64 y.kind) ∧ W.cell? ⟨b + 1, 1, none⟩ = some (.int .i64 y.n) ∧ W.cell? ⟨b + 1, 2, none⟩ = some (.string y.s)) := Lib.hid fun W Q T => by
    rw [hbs] at T
    have i0 := T.box (b := b + 1) (o := objV y) (Q.length + 0) (by rw [List.getElem?_append_right (by omega), Nat.add_sub_cancel_left]; rfl)
    exact ⟨cellAt i0 0 rfl, cellAt i0 1 rfl, cellAt i0 2 rfl⟩
  have C0 : Hid (∀ W (Q : List Res), Sep w (Q ++ bA) W → W.cell? ⟨b, 0, none⟩ = some (.int .i64 x.kind) ∧ W.cell? ⟨b, 1, none⟩ = some (.int .i64 x.n) ∧ W.cell? ⟨b, 2, none⟩ = some (.string x.s)) := Lib.hid fun W Q T => by
    rw [hbs] at T
    have i0 := T.box (b := b) (o := objV x) (Q.length + 1) (by rw [List.getElem?_append_right (by omega), Nat.add_sub_cancel_left]; rfl)
    exact ⟨cellAt i0 0 rfl, cellAt i0 1 rfl, cellAt i0 2 rfl⟩
  clear hbs
  replace S := Lib.hid S
  go_enter Tryz.func80, Tryz.ntmps80
  go_upto_region 1 with fail
  try simp only [World.size_alloc, hb]
  clear hb
  have HKK : Hid (∀ W (Q : List Res), Sep w (heapR h H :: (Q ++ bA)) W → True) := Lib.hid fun _ _ _ => trivial
  refine regionL (E := [boxE (b + 1 + 1), heapR h H]) (base := bA) S.out ?_
  clear S
  refine quietL ?_
  simp only [Act.put, pa]; try dsimp only [List.set]
  refine quietL (hy := fun E Wx hSw => by ((refine and3 (C0.out _ _ hSw) fun u0 u1 u2 => ?_); go_simp; exact ⟨rfl, hSw⟩)) (h := ?_)
  simp only [Act.put, pa]; try dsimp only [List.set]
  refine detL (.int .i64 kx) [boxE (b + 1 + 1), heapR h H] (h1 := fun Wx hSw => by (go_simp; refine symCall ?_; exact kind_at hSw 1 rfl x kx HK.out)) (h2 := ?_)
  simp only [Act.put, pa]; try dsimp only [List.set]
  iterate 2 (refine quietL ?_; simp only [Act.put, pa]; try dsimp only [List.set])
  iterate 3 (refine skipL ?_; simp only [Act.put, pa]; try dsimp only [List.set])
  iterate 2 (refine quietL ?_; simp only [Act.put, pa]; try dsimp only [List.set])
  intro w1 S
  replace S := Lib.hid S
  have KY : Hid (∀ W (Q : List Res), Sep w (Q ++ bA) W → Calls Tryz.prog 75 #[.agg #[.int .i64 y.kind, .int .i64 y.n, .string y.s]] W fun e W' => e = .returned (.bool true) ∧ Sep w (Q ++ bA) W') := Lib.hid fun W Q T => by
    have hh := dict_key W y
    rw [HKEY.out] at hh
    exact hh.mono fun e W' ⟨e1, e2⟩ => ⟨e1, T.later e2⟩
  go_upto_region 7 with fail
  refine regionL (E := [boxE (b + 1 + 1), heapR h H]) (base := bA) S.out ?_
  clear S
  refine quietL ?_
  simp only [Act.put, pa]; try dsimp only [List.set]
  refine quietL (hy := fun E Wx hSw => by ((refine and3 (C0.out _ _ hSw) fun u0 u1 u2 => ?_); go_simp; exact ⟨rfl, hSw⟩)) (h := ?_)
  simp only [Act.put, pa]; try dsimp only [List.set]
  refine detL (.int .i64 kx) [boxE (b + 1 + 1), heapR h H] (h1 := fun Wx hSw => by (go_simp; refine symCall ?_; exact kind_at hSw 1 rfl x kx HK.out)) (h2 := ?_)
  simp only [Act.put, pa]; try dsimp only [List.set]
  iterate 2 (refine quietL ?_; simp only [Act.put, pa]; try dsimp only [List.set])
  refine quietL (hy := fun E Wx hSw => by ((refine and3 (C1.out _ _ hSw) fun u0 u1 u2 => ?_); go_simp; exact ⟨rfl, hSw⟩)) (h := ?_)
  simp only [Act.put, pa]; try dsimp only [List.set]
  refine quietL (hy := fun E Wx hSw => by (go_simp; exact symCall (KY.out _ _ hSw))) (h := ?_)
  simp only [Act.put, pa]; try dsimp only [List.set]
  iterate 2 (refine quietL ?_; simp only [Act.put, pa]; try dsimp only [List.set])
  intro w2 S
  replace S := Lib.hid S
  go_upto_region 8 with fail
  refine regionL (E := [boxE (b + 1 + 1), heapR h H]) (base := bA) S.out ?_
  clear S
  refine quietL ?_
  simp only [Act.put, pa]; try dsimp only [List.set]
  refine detL (.agg #[.string keyError, .int .i64 y.kind, .int .i64 y.n, .string y.s, .bool true]) [boxE (b + 1 + 1), heapR h (H.del x y)] (h1 := fun Wx hSw => by (go_simp; refine symCall ?_; rw [HBS.out] at hSw ⊢; exact del_pair_no hSw 1 (by rfl) (i4 := k4 + 4) (i5 := k5 + 4) (i6 := k6 + 4) (by simpa using g4) x y (by simpa using g5) (by simpa using g6) (by omega) hc)) (h2 := ?_)
  simp only [Act.put, pa]; try dsimp only [List.set]
  refine detL undef [boxX (b + 1 + 1) keyError y.kind y.n y.s true, heapR h (H.del x y)] (h1 := fun Wx hSw => by (have hz := hSw.box (b := (b + 1 + 1)) (o := objE) 0 rfl; refine useZ5 hz fun z0 z1 z2 z3 z4 y0 y1 y2 y3 y4 => ?_; go_simp; exact ⟨rfl, hSw.set5 0 rfl (.string keyError) (.int .i64 y.kind) (.int .i64 y.n) (.string y.s) (.bool true)⟩)) (h2 := ?_)
  simp only [Act.put, pa]; try dsimp only [List.set]
  intro w3 S
  replace S := Lib.hid S
  replace S := S.out
  refine useR5 (S.box (b := b + 1 + 1) (o := objX keyError y.kind y.n y.s true) 0 rfl) fun r0 r1 r2 r3 r4 => ?_
  replace S := Lib.hid S
  go_wp2
  refine bodyPost_ret (v := .agg #[.string keyError, .int .i64 y.kind, .int .i64 y.n, .string y.s, .bool true]) (by simp [results, Tryz.results80, go_sem, r0, r1, r2, r3, r4]) rfl ⟨rfl, ?_⟩
  replace S := S.out
  rw [HBS.out] at S
  exact HF.out _ _ (S.sub (Qs := heapR h (H.del x y) :: Rt) (.cons _ (.cons_cons _ (.cons _ (.cons _ (List.Sublist.refl _))))))
set_option maxRecDepth 100000 in
set_option maxHeartbeats 12800000 in
theorem si_w2 (S : Sep w Rs W) (i : Nat) (hi : Rs[i]? = some (heapR h H)) {N : Nat} (G : H.Good N) (hN : N ≤ 4000000) (x y z : V) (hl : ¬ H.kind x = 1) (hd : H.kind x = 3) (hk : y.isKey = false) : Calls Tryz.prog 39 #[.pointer (some ⟨h, 0, none⟩), .agg #[.int .i64 x.kind, .int .i64 x.n, .string x.s], .agg #[.int .i64 y.kind, .int .i64 y.n, .string y.s], .agg #[.int .i64 z.kind, .int .i64 z.n, .string z.s]] W fun e W' => e = .returned (excN typeError) ∧ Sep w (Rs.set i (heapR h (H))) W' := by
  have Qhd := Lib.hid hd
  have Qhk := Lib.hid hk
  have Qhl := Lib.hid hl
  clear hl hk hd
  obtain ⟨b, hb⟩ : ∃ gx_, (W.heap.size) = gx_ := ⟨_, rfl⟩
  replace S := (((((S.alloc (.cells #[.pointer (some ⟨h, 0, none⟩)] 31)).alloc (.cells #[.int .i64 x.kind, .int .i64 x.n, .string x.s] 29)).alloc (.cells #[.int .i64 y.kind, .int .i64 y.n, .string y.s] 29)).alloc (.cells #[.int .i64 z.kind, .int .i64 z.n, .string z.s] 29)).alloc (.cells #[.string ⟨#[]⟩, .int .i64 0, .int .i64 0, .string ⟨#[]⟩, .bool false] 38))
  simp only [World.size_alloc, hb] at S
  replace S : Sep w (boxE (b + 1 + 1 + 1 + 1) :: boxV (b + 1 + 1 + 1) z :: boxV (b + 1 + 1) y :: boxV (b + 1) x :: boxR b (.cells #[.pointer (some ⟨h, 0, none⟩)] 31) :: Rs) (((((W.alloc (.cells #[.pointer (some ⟨h, 0, none⟩)] 31)).alloc (.cells #[.int .i64 x.kind, .int .i64 x.n, .string x.s] 29)).alloc (.cells #[.int .i64 y.kind, .int .i64 y.n, .string y.s] 29)).alloc (.cells #[.int .i64 z.kind, .int .i64 z.n, .string z.s] 29)).alloc (.cells #[.string ⟨#[]⟩, .int .i64 0, .int .i64 0, .string ⟨#[]⟩, .bool false] 38)) := S
  obtain ⟨Rt, hRt⟩ : ∃ l, l = Rs.eraseIdx i := ⟨_, rfl⟩
  have HF : Hid (∀ H' W', Sep w (heapR h H' :: Rt) W' → Sep w (Rs.set i (heapR h H')) W') := Lib.hid fun H' W' T => by rw [hRt] at T; exact T.perm (perm_push hi).symm
  obtain ⟨bA, hbs⟩ : ∃ l, l = boxV (b + 1 + 1 + 1) z :: boxV (b + 1 + 1) y :: boxV (b + 1) x :: boxR b (.cells #[.pointer (some ⟨h, 0, none⟩)] 31) :: Rt := ⟨_, rfl⟩
  have HBS := Lib.hid hbs
  replace S : Sep w ([boxE (b + 1 + 1 + 1 + 1), heapR h H] ++ bA) (((((W.alloc (.cells #[.pointer (some ⟨h, 0, none⟩)] 31)).alloc (.cells #[.int .i64 x.kind, .int .i64 x.n, .string x.s] 29)).alloc (.cells #[.int .i64 y.kind, .int .i64 y.n, .string y.s] 29)).alloc (.cells #[.int .i64 z.kind, .int .i64 z.n, .string z.s] 29)).alloc (.cells #[.string ⟨#[]⟩, .int .i64 0, .int .i64 0, .string ⟨#[]⟩, .bool false] 38)) := by
    rw [hbs]
    refine (show Sep w ([boxE (b + 1 + 1 + 1 + 1), boxV (b + 1 + 1 + 1) z, boxV (b + 1 + 1) y, boxV (b + 1) x, boxR b (.cells #[.pointer (some ⟨h, 0, none⟩)] 31)] ++ Rs) _ from S).perm ?_
    have e : Rs.Perm (heapR h H :: Rt) := by rw [hRt]; exact perm_pull hi
    refine (List.Perm.append_left _ e).trans ?_
    exact (show ([boxE (b + 1 + 1 + 1 + 1), boxV (b + 1 + 1 + 1) z, boxV (b + 1 + 1) y, boxV (b + 1) x, boxR b (.cells #[.pointer (some ⟨h, 0, none⟩)] 31)] ++ ([heapR h H] ++ Rt)).Perm ([boxE (b + 1 + 1 + 1 + 1), heapR h H] ++ ([boxV (b + 1 + 1 + 1) z, boxV (b + 1 + 1) y, boxV (b + 1) x, boxR b (.cells #[.pointer (some ⟨h, 0, none⟩)] 31)] ++ Rt)) from by rw [← List.append_assoc, ← List.append_assoc]; exact List.Perm.append_right Rt (by exact perm_of [0, 5, 1, 2, 3, 4] (by show (List.range' 0 6).Perm [0, 5, 1, 2, 3, 4]; decide) (by rfl)))
  clear hRt
  have C3 : Hid (∀ W (Q : List Res), Sep w (Q ++ bA) W → W.cell? ⟨b + 1 + 1 + 1, 0, none⟩ = some (.int .i64 z.kind) ∧ W.cell? ⟨b + 1 + 1 + 1, 1, none⟩ = some (.int .i64 z.n) ∧ W.cell? ⟨b + 1 + 1 + 1, 2, none⟩ = some (.string z.s)) := Lib.hid fun W Q T => by
    rw [hbs] at T
    have i0 := T.box (b := b + 1 + 1 + 1) (o := objV z) (Q.length + 0) (by rw [List.getElem?_append_right (by omega), Nat.add_sub_cancel_left]; rfl)
    exact ⟨cellAt i0 0 rfl, cellAt i0 1 rfl, cellAt i0 2 rfl⟩
  have C2 : Hid (∀ W (Q : List Res), Sep w (Q ++ bA) W → W.cell? ⟨b + 1 + 1, 0, none⟩ = some (.int .i64 y.kind) ∧ W.cell? ⟨b + 1 + 1, 1, none⟩ = some (.int .i64 y.n) ∧ W.cell? ⟨b + 1 + 1, 2, none⟩ = some (.string y.s)) := Lib.hid fun W Q T => by
    rw [hbs] at T
    have i0 := T.box (b := b + 1 + 1) (o := objV y) (Q.length + 1) (by rw [List.getElem?_append_right (by omega), Nat.add_sub_cancel_left]; rfl)
    exact ⟨cellAt i0 0 rfl, cellAt i0 1 rfl, cellAt i0 2 rfl⟩
  have C1 : Hid (∀ W (Q : List Res), Sep w (Q ++ bA) W → W.cell? ⟨b + 1, 0, none⟩ = some (.int .i64 x.kind) ∧ W.cell? ⟨b + 1, 1, none⟩ = some (.int .i64 x.n) ∧ W.cell? ⟨b + 1, 2, none⟩ = some (.string x.s)) := Lib.hid fun W Q T => by
    rw [hbs] at T
    have i0 := T.box (b := b + 1) (o := objV x) (Q.length + 2) (by rw [List.getElem?_append_right (by omega), Nat.add_sub_cancel_left]; rfl)
    exact ⟨cellAt i0 0 rfl, cellAt i0 1 rfl, cellAt i0 2 rfl⟩
  have C0 : Hid (∀ W (Q : List Res), Sep w (Q ++ bA) W → W.cell? ⟨b, 0, none⟩ = some (.pointer (some ⟨h, 0, none⟩))) := Lib.hid fun W Q T => by
    rw [hbs] at T
    have i0 := T.box (b := b) (o := .cells #[.pointer (some ⟨h, 0, none⟩)] 31) (Q.length + 3) (by rw [List.getElem?_append_right (by omega), Nat.add_sub_cancel_left]; rfl)
    exact cellAt i0 0 rfl
  clear hbs
  replace S := Lib.hid S
  go_enter Tryz.func39, Tryz.ntmps39
  go_upto_region 1 with fail
  try simp only [World.size_alloc, hb]
  clear hb
  refine regionL (E := [boxE (b + 1 + 1 + 1 + 1), heapR h H]) (base := bA) S.out ?_
  clear S
  refine quietL (hy := fun E Wx hSw => by ((have u0 := C0.out _ _ hSw); go_simp; exact ⟨rfl, hSw⟩)) (h := ?_)
  simp only [Act.put, pa]; try dsimp only [List.set]
  refine quietL (hy := fun E Wx hSw => by ((refine and3 (C1.out _ _ hSw) fun u0 u1 u2 => ?_); go_simp; exact ⟨rfl, hSw⟩)) (h := ?_)
  simp only [Act.put, pa]; try dsimp only [List.set]
  refine quietL (hy := fun E Wx hSw => by ((refine and3 (C2.out _ _ hSw) fun u0 u1 u2 => ?_); go_simp; exact ⟨rfl, hSw⟩)) (h := ?_)
  simp only [Act.put, pa]; try dsimp only [List.set]
  iterate 2 (refine quietL ?_; simp only [Act.put, pa]; try dsimp only [List.set])
  refine detL (.agg #[.string typeError, .int .i64 0, .int .i64 0, .string ⟨#[]⟩, .bool false]) [boxE (b + 1 + 1 + 1 + 1), heapR h (H)] (h1 := fun Wx hSw => by (go_simp; refine symCall ?_; rw [HBS.out] at hSw ⊢; exact chg_w2 hSw 1 (by rfl) G hN x y _ _ Qhl.out Qhd.out Qhk.out)) (h2 := ?_)
  simp only [Act.put, pa]; try dsimp only [List.set]
  refine detL undef [boxN (b + 1 + 1 + 1 + 1) typeError, heapR h (H)] (h1 := fun Wx hSw => by (have hz := hSw.box (b := (b + 1 + 1 + 1 + 1)) (o := objE) 0 rfl; refine useZ5 hz fun z0 z1 z2 z3 z4 y0 y1 y2 y3 y4 => ?_; go_simp; exact ⟨rfl, hSw.set5 0 rfl (.string typeError) (.int .i64 0) (.int .i64 0) (.string ⟨#[]⟩) (.bool false)⟩)) (h2 := ?_)
  simp only [Act.put, pa]; try dsimp only [List.set]
  intro w1 S
  replace S := Lib.hid S
  replace S := S.out
  refine useR5 (S.box (b := b + 1 + 1 + 1 + 1) (o := objN typeError) 0 rfl) fun r0 r1 r2 r3 r4 => ?_
  replace S := Lib.hid S
  go_wp2
  refine bodyPost_ret (v := .agg #[.string typeError, .int .i64 0, .int .i64 0, .string ⟨#[]⟩, .bool false]) (by simp [results, Tryz.results39, go_sem, r0, r1, r2, r3, r4]) rfl ⟨rfl, ?_⟩
  replace S := S.out
  rw [HBS.out] at S
  exact HF.out _ _ (S.sub (Qs := heapR h (H) :: Rt) (.cons _ (.cons_cons _ (.cons _ (.cons _ (.cons _ (.cons _ (List.Sublist.refl _))))))))
set_option maxRecDepth 100000 in
set_option maxHeartbeats 12800000 in
theorem di_w2 (S : Sep w Rs W) (i : Nat) (hi : Rs[i]? = some (heapR h H)) {N : Nat} (G : H.Good N) (hN : N ≤ 4000000) (x y : V) (hl : ¬ H.kind x = 1) (hd : H.kind x = 3) (hk : y.isKey = false) : Calls Tryz.prog 40 #[.pointer (some ⟨h, 0, none⟩), .agg #[.int .i64 x.kind, .int .i64 x.n, .string x.s], .agg #[.int .i64 y.kind, .int .i64 y.n, .string y.s]] W fun e W' => e = .returned (excN typeError) ∧ Sep w (Rs.set i (heapR h (H))) W' := by
  have Qhd := Lib.hid hd
  have Qhk := Lib.hid hk
  have Qhl := Lib.hid hl
  clear hl hk hd
  obtain ⟨b, hb⟩ : ∃ gx_, (W.heap.size) = gx_ := ⟨_, rfl⟩
  replace S := ((((S.alloc (.cells #[.pointer (some ⟨h, 0, none⟩)] 31)).alloc (.cells #[.int .i64 x.kind, .int .i64 x.n, .string x.s] 29)).alloc (.cells #[.int .i64 y.kind, .int .i64 y.n, .string y.s] 29)).alloc (.cells #[.string ⟨#[]⟩, .int .i64 0, .int .i64 0, .string ⟨#[]⟩, .bool false] 38))
  simp only [World.size_alloc, hb] at S
  replace S : Sep w (boxE (b + 1 + 1 + 1) :: boxV (b + 1 + 1) y :: boxV (b + 1) x :: boxR b (.cells #[.pointer (some ⟨h, 0, none⟩)] 31) :: Rs) ((((W.alloc (.cells #[.pointer (some ⟨h, 0, none⟩)] 31)).alloc (.cells #[.int .i64 x.kind, .int .i64 x.n, .string x.s] 29)).alloc (.cells #[.int .i64 y.kind, .int .i64 y.n, .string y.s] 29)).alloc (.cells #[.string ⟨#[]⟩, .int .i64 0, .int .i64 0, .string ⟨#[]⟩, .bool false] 38)) := S
  obtain ⟨Rt, hRt⟩ : ∃ l, l = Rs.eraseIdx i := ⟨_, rfl⟩
  have HF : Hid (∀ H' W', Sep w (heapR h H' :: Rt) W' → Sep w (Rs.set i (heapR h H')) W') := Lib.hid fun H' W' T => by rw [hRt] at T; exact T.perm (perm_push hi).symm
  obtain ⟨bA, hbs⟩ : ∃ l, l = boxV (b + 1 + 1) y :: boxV (b + 1) x :: boxR b (.cells #[.pointer (some ⟨h, 0, none⟩)] 31) :: Rt := ⟨_, rfl⟩
  have HBS := Lib.hid hbs
  replace S : Sep w ([boxE (b + 1 + 1 + 1), heapR h H] ++ bA) ((((W.alloc (.cells #[.pointer (some ⟨h, 0, none⟩)] 31)).alloc (.cells #[.int .i64 x.kind, .int .i64 x.n, .string x.s] 29)).alloc (.cells #[.int .i64 y.kind, .int .i64 y.n, .string y.s] 29)).alloc (.cells #[.string ⟨#[]⟩, .int .i64 0, .int .i64 0, .string ⟨#[]⟩, .bool false] 38)) := by
    rw [hbs]
    refine (show Sep w ([boxE (b + 1 + 1 + 1), boxV (b + 1 + 1) y, boxV (b + 1) x, boxR b (.cells #[.pointer (some ⟨h, 0, none⟩)] 31)] ++ Rs) _ from S).perm ?_
    have e : Rs.Perm (heapR h H :: Rt) := by rw [hRt]; exact perm_pull hi
    refine (List.Perm.append_left _ e).trans ?_
    exact (show ([boxE (b + 1 + 1 + 1), boxV (b + 1 + 1) y, boxV (b + 1) x, boxR b (.cells #[.pointer (some ⟨h, 0, none⟩)] 31)] ++ ([heapR h H] ++ Rt)).Perm ([boxE (b + 1 + 1 + 1), heapR h H] ++ ([boxV (b + 1 + 1) y, boxV (b + 1) x, boxR b (.cells #[.pointer (some ⟨h, 0, none⟩)] 31)] ++ Rt)) from by rw [← List.append_assoc, ← List.append_assoc]; exact List.Perm.append_right Rt (by exact perm_of [0, 4, 1, 2, 3] (by show (List.range' 0 5).Perm [0, 4, 1, 2, 3]; decide) (by rfl)))
  clear hRt
  have C2 : Hid (∀ W (Q : List Res), Sep w (Q ++ bA) W → W.cell? ⟨b + 1 + 1, 0, none⟩ = some (.int .i64 y.kind) ∧ W.cell? ⟨b + 1 + 1, 1, none⟩ = some (.int .i64 y.n) ∧ W.cell? ⟨b + 1 + 1, 2, none⟩ = some (.string y.s)) := Lib.hid fun W Q T => by
    rw [hbs] at T
    have i0 := T.box (b := b + 1 + 1) (o := objV y) (Q.length + 0) (by rw [List.getElem?_append_right (by omega), Nat.add_sub_cancel_left]; rfl)
    exact ⟨cellAt i0 0 rfl, cellAt i0 1 rfl, cellAt i0 2 rfl⟩
  have C1 : Hid (∀ W (Q : List Res), Sep w (Q ++ bA) W → W.cell? ⟨b + 1, 0, none⟩ = some (.int .i64 x.kind) ∧ W.cell? ⟨b + 1, 1, none⟩ = some (.int .i64 x.n) ∧ W.cell? ⟨b + 1, 2, none⟩ = some (.string x.s)) := Lib.hid fun W Q T => by
    rw [hbs] at T
    have i0 := T.box (b := b + 1) (o := objV x) (Q.length + 1) (by rw [List.getElem?_append_right (by omega), Nat.add_sub_cancel_left]; rfl)
    exact ⟨cellAt i0 0 rfl, cellAt i0 1 rfl, cellAt i0 2 rfl⟩
  have C0 : Hid (∀ W (Q : List Res), Sep w (Q ++ bA) W → W.cell? ⟨b, 0, none⟩ = some (.pointer (some ⟨h, 0, none⟩))) := Lib.hid fun W Q T => by
    rw [hbs] at T
    have i0 := T.box (b := b) (o := .cells #[.pointer (some ⟨h, 0, none⟩)] 31) (Q.length + 2) (by rw [List.getElem?_append_right (by omega), Nat.add_sub_cancel_left]; rfl)
    exact cellAt i0 0 rfl
  clear hbs
  replace S := Lib.hid S
  go_enter Tryz.func40, Tryz.ntmps40
  go_upto_region 1 with fail
  try simp only [World.size_alloc, hb]
  clear hb
  refine regionL (E := [boxE (b + 1 + 1 + 1), heapR h H]) (base := bA) S.out ?_
  clear S
  refine quietL (hy := fun E Wx hSw => by ((have u0 := C0.out _ _ hSw); go_simp; exact ⟨rfl, hSw⟩)) (h := ?_)
  simp only [Act.put, pa]; try dsimp only [List.set]
  refine quietL (hy := fun E Wx hSw => by ((refine and3 (C1.out _ _ hSw) fun u0 u1 u2 => ?_); go_simp; exact ⟨rfl, hSw⟩)) (h := ?_)
  simp only [Act.put, pa]; try dsimp only [List.set]
  refine quietL (hy := fun E Wx hSw => by ((refine and3 (C2.out _ _ hSw) fun u0 u1 u2 => ?_); go_simp; exact ⟨rfl, hSw⟩)) (h := ?_)
  simp only [Act.put, pa]; try dsimp only [List.set]
  iterate 2 (refine quietL ?_; simp only [Act.put, pa]; try dsimp only [List.set])
  refine detL (.agg #[.string typeError, .int .i64 0, .int .i64 0, .string ⟨#[]⟩, .bool false]) [boxE (b + 1 + 1 + 1), heapR h (H)] (h1 := fun Wx hSw => by (go_simp; refine symCall ?_; rw [HBS.out] at hSw ⊢; exact chg_w2 hSw 1 (by rfl) G hN x y _ _ Qhl.out Qhd.out Qhk.out)) (h2 := ?_)
  simp only [Act.put, pa]; try dsimp only [List.set]
  refine detL undef [boxN (b + 1 + 1 + 1) typeError, heapR h (H)] (h1 := fun Wx hSw => by (have hz := hSw.box (b := (b + 1 + 1 + 1)) (o := objE) 0 rfl; refine useZ5 hz fun z0 z1 z2 z3 z4 y0 y1 y2 y3 y4 => ?_; go_simp; exact ⟨rfl, hSw.set5 0 rfl (.string typeError) (.int .i64 0) (.int .i64 0) (.string ⟨#[]⟩) (.bool false)⟩)) (h2 := ?_)
  simp only [Act.put, pa]; try dsimp only [List.set]
  intro w1 S
  replace S := Lib.hid S
  replace S := S.out
  refine useR5 (S.box (b := b + 1 + 1 + 1) (o := objN typeError) 0 rfl) fun r0 r1 r2 r3 r4 => ?_
  replace S := Lib.hid S
  go_wp2
  refine bodyPost_ret (v := .agg #[.string typeError, .int .i64 0, .int .i64 0, .string ⟨#[]⟩, .bool false]) (by simp [results, Tryz.results40, go_sem, r0, r1, r2, r3, r4]) rfl ⟨rfl, ?_⟩
  replace S := S.out
  rw [HBS.out] at S
  exact HF.out _ _ (S.sub (Qs := heapR h (H) :: Rt) (.cons _ (.cons_cons _ (.cons _ (.cons _ (.cons _ (List.Sublist.refl _)))))))
set_option maxRecDepth 100000 in
set_option maxHeartbeats 12800000 in
theorem si_put (S : Sep w Rs W) (i : Nat) (hi : Rs[i]? = some (heapR h H)) {N : Nat} (G : H.Good N) (hN : N ≤ 4000000) (x y z : V) (hl : ¬ H.kind x = 1) (hd : H.kind x = 3) (hk : y.isKey = true) (hc : H.canPut x y = true) : Calls Tryz.prog 39 #[.pointer (some ⟨h, 0, none⟩), .agg #[.int .i64 x.kind, .int .i64 x.n, .string x.s], .agg #[.int .i64 y.kind, .int .i64 y.n, .string y.s], .agg #[.int .i64 z.kind, .int .i64 z.n, .string z.s]] W fun e W' => e = .returned (excZ) ∧ Sep w (Rs.set i (heapR h (H.put x y z))) W' := by
  have Qhc := Lib.hid hc
  have Qhd := Lib.hid hd
  have Qhk := Lib.hid hk
  have Qhl := Lib.hid hl
  clear hl hk hd hc
  obtain ⟨b, hb⟩ : ∃ gx_, (W.heap.size) = gx_ := ⟨_, rfl⟩
  replace S := (((((S.alloc (.cells #[.pointer (some ⟨h, 0, none⟩)] 31)).alloc (.cells #[.int .i64 x.kind, .int .i64 x.n, .string x.s] 29)).alloc (.cells #[.int .i64 y.kind, .int .i64 y.n, .string y.s] 29)).alloc (.cells #[.int .i64 z.kind, .int .i64 z.n, .string z.s] 29)).alloc (.cells #[.string ⟨#[]⟩, .int .i64 0, .int .i64 0, .string ⟨#[]⟩, .bool false] 38))
  simp only [World.size_alloc, hb] at S
  replace S : Sep w (boxE (b + 1 + 1 + 1 + 1) :: boxV (b + 1 + 1 + 1) z :: boxV (b + 1 + 1) y :: boxV (b + 1) x :: boxR b (.cells #[.pointer (some ⟨h, 0, none⟩)] 31) :: Rs) (((((W.alloc (.cells #[.pointer (some ⟨h, 0, none⟩)] 31)).alloc (.cells #[.int .i64 x.kind, .int .i64 x.n, .string x.s] 29)).alloc (.cells #[.int .i64 y.kind, .int .i64 y.n, .string y.s] 29)).alloc (.cells #[.int .i64 z.kind, .int .i64 z.n, .string z.s] 29)).alloc (.cells #[.string ⟨#[]⟩, .int .i64 0, .int .i64 0, .string ⟨#[]⟩, .bool false] 38)) := S
  obtain ⟨Rt, hRt⟩ : ∃ l, l = Rs.eraseIdx i := ⟨_, rfl⟩
  have HF : Hid (∀ H' W', Sep w (heapR h H' :: Rt) W' → Sep w (Rs.set i (heapR h H')) W') := Lib.hid fun H' W' T => by rw [hRt] at T; exact T.perm (perm_push hi).symm
  obtain ⟨bA, hbs⟩ : ∃ l, l = boxV (b + 1 + 1 + 1) z :: boxV (b + 1 + 1) y :: boxV (b + 1) x :: boxR b (.cells #[.pointer (some ⟨h, 0, none⟩)] 31) :: Rt := ⟨_, rfl⟩
  have HBS := Lib.hid hbs
  replace S : Sep w ([boxE (b + 1 + 1 + 1 + 1), heapR h H] ++ bA) (((((W.alloc (.cells #[.pointer (some ⟨h, 0, none⟩)] 31)).alloc (.cells #[.int .i64 x.kind, .int .i64 x.n, .string x.s] 29)).alloc (.cells #[.int .i64 y.kind, .int .i64 y.n, .string y.s] 29)).alloc (.cells #[.int .i64 z.kind, .int .i64 z.n, .string z.s] 29)).alloc (.cells #[.string ⟨#[]⟩, .int .i64 0, .int .i64 0, .string ⟨#[]⟩, .bool false] 38)) := by
    rw [hbs]
    refine (show Sep w ([boxE (b + 1 + 1 + 1 + 1), boxV (b + 1 + 1 + 1) z, boxV (b + 1 + 1) y, boxV (b + 1) x, boxR b (.cells #[.pointer (some ⟨h, 0, none⟩)] 31)] ++ Rs) _ from S).perm ?_
    have e : Rs.Perm (heapR h H :: Rt) := by rw [hRt]; exact perm_pull hi
    refine (List.Perm.append_left _ e).trans ?_
    exact (show ([boxE (b + 1 + 1 + 1 + 1), boxV (b + 1 + 1 + 1) z, boxV (b + 1 + 1) y, boxV (b + 1) x, boxR b (.cells #[.pointer (some ⟨h, 0, none⟩)] 31)] ++ ([heapR h H] ++ Rt)).Perm ([boxE (b + 1 + 1 + 1 + 1), heapR h H] ++ ([boxV (b + 1 + 1 + 1) z, boxV (b + 1 + 1) y, boxV (b + 1) x, boxR b (.cells #[.pointer (some ⟨h, 0, none⟩)] 31)] ++ Rt)) from by rw [← List.append_assoc, ← List.append_assoc]; exact List.Perm.append_right Rt (by exact perm_of [0, 5, 1, 2, 3, 4] (by show (List.range' 0 6).Perm [0, 5, 1, 2, 3, 4]; decide) (by rfl)))
  clear hRt
  have C3 : Hid (∀ W (Q : List Res), Sep w (Q ++ bA) W → W.cell? ⟨b + 1 + 1 + 1, 0, none⟩ = some (.int .i64 z.kind) ∧ W.cell? ⟨b + 1 + 1 + 1, 1, none⟩ = some (.int .i64 z.n) ∧ W.cell? ⟨b + 1 + 1 + 1, 2, none⟩ = some (.string z.s)) := Lib.hid fun W Q T => by
    rw [hbs] at T
    have i0 := T.box (b := b + 1 + 1 + 1) (o := objV z) (Q.length + 0) (by rw [List.getElem?_append_right (by omega), Nat.add_sub_cancel_left]; rfl)
    exact ⟨cellAt i0 0 rfl, cellAt i0 1 rfl, cellAt i0 2 rfl⟩
  have C2 : Hid (∀ W (Q : List Res), Sep w (Q ++ bA) W → W.cell? ⟨b + 1 + 1, 0, none⟩ = some (.int .i64 y.kind) ∧ W.cell? ⟨b + 1 + 1, 1, none⟩ = some (.int .i64 y.n) ∧ W.cell? ⟨b + 1 + 1, 2, none⟩ = some (.string y.s)) := Lib.hid fun W Q T => by
    rw [hbs] at T
    have i0 := T.box (b := b + 1 + 1) (o := objV y) (Q.length + 1) (by rw [List.getElem?_append_right (by omega), Nat.add_sub_cancel_left]; rfl)
    exact ⟨cellAt i0 0 rfl, cellAt i0 1 rfl, cellAt i0 2 rfl⟩
  have C1 : Hid (∀ W (Q : List Res), Sep w (Q ++ bA) W → W.cell? ⟨b + 1, 0, none⟩ = some (.int .i64 x.kind) ∧ W.cell? ⟨b + 1, 1, none⟩ = some (.int .i64 x.n) ∧ W.cell? ⟨b + 1, 2, none⟩ = some (.string x.s)) := Lib.hid fun W Q T => by
    rw [hbs] at T
    have i0 := T.box (b := b + 1) (o := objV x) (Q.length + 2) (by rw [List.getElem?_append_right (by omega), Nat.add_sub_cancel_left]; rfl)
    exact ⟨cellAt i0 0 rfl, cellAt i0 1 rfl, cellAt i0 2 rfl⟩
  have C0 : Hid (∀ W (Q : List Res), Sep w (Q ++ bA) W → W.cell? ⟨b, 0, none⟩ = some (.pointer (some ⟨h, 0, none⟩))) := Lib.hid fun W Q T => by
    rw [hbs] at T
    have i0 := T.box (b := b) (o := .cells #[.pointer (some ⟨h, 0, none⟩)] 31) (Q.length + 3) (by rw [List.getElem?_append_right (by omega), Nat.add_sub_cancel_left]; rfl)
    exact cellAt i0 0 rfl
  clear hbs
  replace S := Lib.hid S
  go_enter Tryz.func39, Tryz.ntmps39
  go_upto_region 1 with fail
  try simp only [World.size_alloc, hb]
  clear hb
  refine regionL (E := [boxE (b + 1 + 1 + 1 + 1), heapR h H]) (base := bA) S.out ?_
  clear S
  refine quietL (hy := fun E Wx hSw => by ((have u0 := C0.out _ _ hSw); go_simp; exact ⟨rfl, hSw⟩)) (h := ?_)
  simp only [Act.put, pa]; try dsimp only [List.set]
  refine quietL (hy := fun E Wx hSw => by ((refine and3 (C1.out _ _ hSw) fun u0 u1 u2 => ?_); go_simp; exact ⟨rfl, hSw⟩)) (h := ?_)
  simp only [Act.put, pa]; try dsimp only [List.set]
  refine quietL (hy := fun E Wx hSw => by ((refine and3 (C2.out _ _ hSw) fun u0 u1 u2 => ?_); go_simp; exact ⟨rfl, hSw⟩)) (h := ?_)
  simp only [Act.put, pa]; try dsimp only [List.set]
  iterate 2 (refine quietL ?_; simp only [Act.put, pa]; try dsimp only [List.set])
  refine detL (.agg #[.string ⟨#[]⟩, .int .i64 0, .int .i64 0, .string ⟨#[]⟩, .bool false]) [boxE (b + 1 + 1 + 1 + 1), heapR h (H.put x y z)] (h1 := fun Wx hSw => by (go_simp; refine symCall ?_; rw [HBS.out] at hSw ⊢; exact chg_put hSw 1 (by rfl) x y z (i4 := 5) (p4 := b) (i5 := 4) (p5 := b + 1) (i6 := 3) (p6 := b + 1 + 1) (i7 := 2) (p7 := b + 1 + 1 + 1) rfl rfl rfl rfl (by omega) (by omega) (by omega) (by omega) _ Qhl.out Qhd.out Qhk.out Qhc.out)) (h2 := ?_)
  simp only [Act.put, pa]; try dsimp only [List.set]
  refine detL undef [boxE (b + 1 + 1 + 1 + 1), heapR h (H.put x y z)] (h1 := fun Wx hSw => by (have hz := hSw.box (b := (b + 1 + 1 + 1 + 1)) (o := objE) 0 rfl; refine useZ5 hz fun z0 z1 z2 z3 z4 y0 y1 y2 y3 y4 => ?_; go_simp; exact ⟨rfl, hSw.set5 0 rfl (.string ⟨#[]⟩) (.int .i64 0) (.int .i64 0) (.string ⟨#[]⟩) (.bool false)⟩)) (h2 := ?_)
  simp only [Act.put, pa]; try dsimp only [List.set]
  intro w1 S
  replace S := Lib.hid S
  replace S := S.out
  refine useR5 (S.box (b := b + 1 + 1 + 1 + 1) (o := objE) 0 rfl) fun r0 r1 r2 r3 r4 => ?_
  replace S := Lib.hid S
  go_wp2
  refine bodyPost_ret (v := .agg #[.string ⟨#[]⟩, .int .i64 0, .int .i64 0, .string ⟨#[]⟩, .bool false]) (by simp [results, Tryz.results39, go_sem, r0, r1, r2, r3, r4]) rfl ⟨rfl, ?_⟩
  replace S := S.out
  rw [HBS.out] at S
  exact HF.out _ _ (S.sub (Qs := heapR h (H.put x y z) :: Rt) (.cons _ (.cons_cons _ (.cons _ (.cons _ (.cons _ (.cons _ (List.Sublist.refl _))))))))
set_option maxRecDepth 100000 in
set_option maxHeartbeats 12800000 in
theorem di_rem (S : Sep w Rs W) (i : Nat) (hi : Rs[i]? = some (heapR h H)) {N : Nat} (G : H.Good N) (hN : N ≤ 4000000) (x y : V) (hl : ¬ H.kind x = 1) (hd : H.kind x = 3) (hk : y.isKey = true) (hc : H.has x y = true) : Calls Tryz.prog 40 #[.pointer (some ⟨h, 0, none⟩), .agg #[.int .i64 x.kind, .int .i64 x.n, .string x.s], .agg #[.int .i64 y.kind, .int .i64 y.n, .string y.s]] W fun e W' => e = .returned (excZ) ∧ Sep w (Rs.set i (heapR h (H.del x y))) W' := by
  have Qhc := Lib.hid hc
  have Qhd := Lib.hid hd
  have Qhk := Lib.hid hk
  have Qhl := Lib.hid hl
  clear hl hk hd hc
  obtain ⟨b, hb⟩ : ∃ gx_, (W.heap.size) = gx_ := ⟨_, rfl⟩
  replace S := ((((S.alloc (.cells #[.pointer (some ⟨h, 0, none⟩)] 31)).alloc (.cells #[.int .i64 x.kind, .int .i64 x.n, .string x.s] 29)).alloc (.cells #[.int .i64 y.kind, .int .i64 y.n, .string y.s] 29)).alloc (.cells #[.string ⟨#[]⟩, .int .i64 0, .int .i64 0, .string ⟨#[]⟩, .bool false] 38))
  simp only [World.size_alloc, hb] at S
  replace S : Sep w (boxE (b + 1 + 1 + 1) :: boxV (b + 1 + 1) y :: boxV (b + 1) x :: boxR b (.cells #[.pointer (some ⟨h, 0, none⟩)] 31) :: Rs) ((((W.alloc (.cells #[.pointer (some ⟨h, 0, none⟩)] 31)).alloc (.cells #[.int .i64 x.kind, .int .i64 x.n, .string x.s] 29)).alloc (.cells #[.int .i64 y.kind, .int .i64 y.n, .string y.s] 29)).alloc (.cells #[.string ⟨#[]⟩, .int .i64 0, .int .i64 0, .string ⟨#[]⟩, .bool false] 38)) := S
  obtain ⟨Rt, hRt⟩ : ∃ l, l = Rs.eraseIdx i := ⟨_, rfl⟩
  have HF : Hid (∀ H' W', Sep w (heapR h H' :: Rt) W' → Sep w (Rs.set i (heapR h H')) W') := Lib.hid fun H' W' T => by rw [hRt] at T; exact T.perm (perm_push hi).symm
  obtain ⟨bA, hbs⟩ : ∃ l, l = boxV (b + 1 + 1) y :: boxV (b + 1) x :: boxR b (.cells #[.pointer (some ⟨h, 0, none⟩)] 31) :: Rt := ⟨_, rfl⟩
  have HBS := Lib.hid hbs
  replace S : Sep w ([boxE (b + 1 + 1 + 1), heapR h H] ++ bA) ((((W.alloc (.cells #[.pointer (some ⟨h, 0, none⟩)] 31)).alloc (.cells #[.int .i64 x.kind, .int .i64 x.n, .string x.s] 29)).alloc (.cells #[.int .i64 y.kind, .int .i64 y.n, .string y.s] 29)).alloc (.cells #[.string ⟨#[]⟩, .int .i64 0, .int .i64 0, .string ⟨#[]⟩, .bool false] 38)) := by
    rw [hbs]
    refine (show Sep w ([boxE (b + 1 + 1 + 1), boxV (b + 1 + 1) y, boxV (b + 1) x, boxR b (.cells #[.pointer (some ⟨h, 0, none⟩)] 31)] ++ Rs) _ from S).perm ?_
    have e : Rs.Perm (heapR h H :: Rt) := by rw [hRt]; exact perm_pull hi
    refine (List.Perm.append_left _ e).trans ?_
    exact (show ([boxE (b + 1 + 1 + 1), boxV (b + 1 + 1) y, boxV (b + 1) x, boxR b (.cells #[.pointer (some ⟨h, 0, none⟩)] 31)] ++ ([heapR h H] ++ Rt)).Perm ([boxE (b + 1 + 1 + 1), heapR h H] ++ ([boxV (b + 1 + 1) y, boxV (b + 1) x, boxR b (.cells #[.pointer (some ⟨h, 0, none⟩)] 31)] ++ Rt)) from by rw [← List.append_assoc, ← List.append_assoc]; exact List.Perm.append_right Rt (by exact perm_of [0, 4, 1, 2, 3] (by show (List.range' 0 5).Perm [0, 4, 1, 2, 3]; decide) (by rfl)))
  clear hRt
  have C2 : Hid (∀ W (Q : List Res), Sep w (Q ++ bA) W → W.cell? ⟨b + 1 + 1, 0, none⟩ = some (.int .i64 y.kind) ∧ W.cell? ⟨b + 1 + 1, 1, none⟩ = some (.int .i64 y.n) ∧ W.cell? ⟨b + 1 + 1, 2, none⟩ = some (.string y.s)) := Lib.hid fun W Q T => by
    rw [hbs] at T
    have i0 := T.box (b := b + 1 + 1) (o := objV y) (Q.length + 0) (by rw [List.getElem?_append_right (by omega), Nat.add_sub_cancel_left]; rfl)
    exact ⟨cellAt i0 0 rfl, cellAt i0 1 rfl, cellAt i0 2 rfl⟩
  have C1 : Hid (∀ W (Q : List Res), Sep w (Q ++ bA) W → W.cell? ⟨b + 1, 0, none⟩ = some (.int .i64 x.kind) ∧ W.cell? ⟨b + 1, 1, none⟩ = some (.int .i64 x.n) ∧ W.cell? ⟨b + 1, 2, none⟩ = some (.string x.s)) := Lib.hid fun W Q T => by
    rw [hbs] at T
    have i0 := T.box (b := b + 1) (o := objV x) (Q.length + 1) (by rw [List.getElem?_append_right (by omega), Nat.add_sub_cancel_left]; rfl)
    exact ⟨cellAt i0 0 rfl, cellAt i0 1 rfl, cellAt i0 2 rfl⟩
  have C0 : Hid (∀ W (Q : List Res), Sep w (Q ++ bA) W → W.cell? ⟨b, 0, none⟩ = some (.pointer (some ⟨h, 0, none⟩))) := Lib.hid fun W Q T => by
    rw [hbs] at T
    have i0 := T.box (b := b) (o := .cells #[.pointer (some ⟨h, 0, none⟩)] 31) (Q.length + 2) (by rw [List.getElem?_append_right (by omega), Nat.add_sub_cancel_left]; rfl)
    exact cellAt i0 0 rfl
  clear hbs
  replace S := Lib.hid S
  go_enter Tryz.func40, Tryz.ntmps40
  go_upto_region 1 with fail
  try simp only [World.size_alloc, hb]
  clear hb
  refine regionL (E := [boxE (b + 1 + 1 + 1), heapR h H]) (base := bA) S.out ?_
  clear S
  refine quietL (hy := fun E Wx hSw => by ((have u0 := C0.out _ _ hSw); go_simp; exact ⟨rfl, hSw⟩)) (h := ?_)
  simp only [Act.put, pa]; try dsimp only [List.set]
  refine quietL (hy := fun E Wx hSw => by ((refine and3 (C1.out _ _ hSw) fun u0 u1 u2 => ?_); go_simp; exact ⟨rfl, hSw⟩)) (h := ?_)
  simp only [Act.put, pa]; try dsimp only [List.set]
  refine quietL (hy := fun E Wx hSw => by ((refine and3 (C2.out _ _ hSw) fun u0 u1 u2 => ?_); go_simp; exact ⟨rfl, hSw⟩)) (h := ?_)
  simp only [Act.put, pa]; try dsimp only [List.set]
  iterate 2 (refine quietL ?_; simp only [Act.put, pa]; try dsimp only [List.set])
  refine detL (.agg #[.string ⟨#[]⟩, .int .i64 0, .int .i64 0, .string ⟨#[]⟩, .bool false]) [boxE (b + 1 + 1 + 1), heapR h (H.del x y)] (h1 := fun Wx hSw => by (go_simp; refine symCall ?_; rw [HBS.out] at hSw ⊢; exact chg_rem hSw 1 (by rfl) x y (i4 := 4) (p4 := b) (i5 := 3) (p5 := b + 1) (i6 := 2) (p6 := b + 1 + 1) rfl rfl rfl (by omega) (by omega) (by omega) _ Qhl.out Qhd.out Qhk.out Qhc.out)) (h2 := ?_)
  simp only [Act.put, pa]; try dsimp only [List.set]
  refine detL undef [boxE (b + 1 + 1 + 1), heapR h (H.del x y)] (h1 := fun Wx hSw => by (have hz := hSw.box (b := (b + 1 + 1 + 1)) (o := objE) 0 rfl; refine useZ5 hz fun z0 z1 z2 z3 z4 y0 y1 y2 y3 y4 => ?_; go_simp; exact ⟨rfl, hSw.set5 0 rfl (.string ⟨#[]⟩) (.int .i64 0) (.int .i64 0) (.string ⟨#[]⟩) (.bool false)⟩)) (h2 := ?_)
  simp only [Act.put, pa]; try dsimp only [List.set]
  intro w1 S
  replace S := Lib.hid S
  replace S := S.out
  refine useR5 (S.box (b := b + 1 + 1 + 1) (o := objE) 0 rfl) fun r0 r1 r2 r3 r4 => ?_
  replace S := Lib.hid S
  go_wp2
  refine bodyPost_ret (v := .agg #[.string ⟨#[]⟩, .int .i64 0, .int .i64 0, .string ⟨#[]⟩, .bool false]) (by simp [results, Tryz.results40, go_sem, r0, r1, r2, r3, r4]) rfl ⟨rfl, ?_⟩
  replace S := S.out
  rw [HBS.out] at S
  exact HF.out _ _ (S.sub (Qs := heapR h (H.del x y) :: Rt) (.cons _ (.cons_cons _ (.cons _ (.cons _ (.cons _ (List.Sublist.refl _)))))))
set_option maxRecDepth 100000 in
set_option maxHeartbeats 12800000 in
theorem di_rem_no (S : Sep w Rs W) (i : Nat) (hi : Rs[i]? = some (heapR h H)) {N : Nat} (G : H.Good N) (hN : N ≤ 4000000) (x y : V) (hl : ¬ H.kind x = 1) (hd : H.kind x = 3) (hk : y.isKey = true) (hc : H.has x y = false) : Calls Tryz.prog 40 #[.pointer (some ⟨h, 0, none⟩), .agg #[.int .i64 x.kind, .int .i64 x.n, .string x.s], .agg #[.int .i64 y.kind, .int .i64 y.n, .string y.s]] W fun e W' => e = .returned (.agg #[.string keyError, .int .i64 y.kind, .int .i64 y.n, .string y.s, .bool true]) ∧ Sep w (Rs.set i (heapR h (H.del x y))) W' := by
  have Qhc := Lib.hid hc
  have Qhd := Lib.hid hd
  have Qhk := Lib.hid hk
  have Qhl := Lib.hid hl
  clear hl hk hd hc
  obtain ⟨b, hb⟩ : ∃ gx_, (W.heap.size) = gx_ := ⟨_, rfl⟩
  replace S := ((((S.alloc (.cells #[.pointer (some ⟨h, 0, none⟩)] 31)).alloc (.cells #[.int .i64 x.kind, .int .i64 x.n, .string x.s] 29)).alloc (.cells #[.int .i64 y.kind, .int .i64 y.n, .string y.s] 29)).alloc (.cells #[.string ⟨#[]⟩, .int .i64 0, .int .i64 0, .string ⟨#[]⟩, .bool false] 38))
  simp only [World.size_alloc, hb] at S
  replace S : Sep w (boxE (b + 1 + 1 + 1) :: boxV (b + 1 + 1) y :: boxV (b + 1) x :: boxR b (.cells #[.pointer (some ⟨h, 0, none⟩)] 31) :: Rs) ((((W.alloc (.cells #[.pointer (some ⟨h, 0, none⟩)] 31)).alloc (.cells #[.int .i64 x.kind, .int .i64 x.n, .string x.s] 29)).alloc (.cells #[.int .i64 y.kind, .int .i64 y.n, .string y.s] 29)).alloc (.cells #[.string ⟨#[]⟩, .int .i64 0, .int .i64 0, .string ⟨#[]⟩, .bool false] 38)) := S
  obtain ⟨Rt, hRt⟩ : ∃ l, l = Rs.eraseIdx i := ⟨_, rfl⟩
  have HF : Hid (∀ H' W', Sep w (heapR h H' :: Rt) W' → Sep w (Rs.set i (heapR h H')) W') := Lib.hid fun H' W' T => by rw [hRt] at T; exact T.perm (perm_push hi).symm
  obtain ⟨bA, hbs⟩ : ∃ l, l = boxV (b + 1 + 1) y :: boxV (b + 1) x :: boxR b (.cells #[.pointer (some ⟨h, 0, none⟩)] 31) :: Rt := ⟨_, rfl⟩
  have HBS := Lib.hid hbs
  replace S : Sep w ([boxE (b + 1 + 1 + 1), heapR h H] ++ bA) ((((W.alloc (.cells #[.pointer (some ⟨h, 0, none⟩)] 31)).alloc (.cells #[.int .i64 x.kind, .int .i64 x.n, .string x.s] 29)).alloc (.cells #[.int .i64 y.kind, .int .i64 y.n, .string y.s] 29)).alloc (.cells #[.string ⟨#[]⟩, .int .i64 0, .int .i64 0, .string ⟨#[]⟩, .bool false] 38)) := by
    rw [hbs]
    refine (show Sep w ([boxE (b + 1 + 1 + 1), boxV (b + 1 + 1) y, boxV (b + 1) x, boxR b (.cells #[.pointer (some ⟨h, 0, none⟩)] 31)] ++ Rs) _ from S).perm ?_
    have e : Rs.Perm (heapR h H :: Rt) := by rw [hRt]; exact perm_pull hi
    refine (List.Perm.append_left _ e).trans ?_
    exact (show ([boxE (b + 1 + 1 + 1), boxV (b + 1 + 1) y, boxV (b + 1) x, boxR b (.cells #[.pointer (some ⟨h, 0, none⟩)] 31)] ++ ([heapR h H] ++ Rt)).Perm ([boxE (b + 1 + 1 + 1), heapR h H] ++ ([boxV (b + 1 + 1) y, boxV (b + 1) x, boxR b (.cells #[.pointer (some ⟨h, 0, none⟩)] 31)] ++ Rt)) from by rw [← List.append_assoc, ← List.append_assoc]; exact List.Perm.append_right Rt (by exact perm_of [0, 4, 1, 2, 3] (by show (List.range' 0 5).Perm [0, 4, 1, 2, 3]; decide) (by rfl)))
  clear hRt
  have C2 : Hid (∀ W (Q : List Res), Sep w (Q ++ bA) W → W.cell? ⟨b + 1 + 1, 0, none⟩ = some (.int .i64 y.kind) ∧ W.cell? ⟨b + 1 + 1, 1, none⟩ = some (.int .i64 y.n) ∧ W.cell? ⟨b + 1 + 1, 2, none⟩ = some (.string y.s)) := Lib.hid fun W Q T => by
    rw [hbs] at T
    have i0 := T.box (b := b + 1 + 1) (o := objV y) (Q.length + 0) (by rw [List.getElem?_append_right (by omega), Nat.add_sub_cancel_left]; rfl)
    exact ⟨cellAt i0 0 rfl, cellAt i0 1 rfl, cellAt i0 2 rfl⟩
  have C1 : Hid (∀ W (Q : List Res), Sep w (Q ++ bA) W → W.cell? ⟨b + 1, 0, none⟩ = some (.int .i64 x.kind) ∧ W.cell? ⟨b + 1, 1, none⟩ = some (.int .i64 x.n) ∧ W.cell? ⟨b + 1, 2, none⟩ = some (.string x.s)) := Lib.hid fun W Q T => by
    rw [hbs] at T
    have i0 := T.box (b := b + 1) (o := objV x) (Q.length + 1) (by rw [List.getElem?_append_right (by omega), Nat.add_sub_cancel_left]; rfl)
    exact ⟨cellAt i0 0 rfl, cellAt i0 1 rfl, cellAt i0 2 rfl⟩
  have C0 : Hid (∀ W (Q : List Res), Sep w (Q ++ bA) W → W.cell? ⟨b, 0, none⟩ = some (.pointer (some ⟨h, 0, none⟩))) := Lib.hid fun W Q T => by
    rw [hbs] at T
    have i0 := T.box (b := b) (o := .cells #[.pointer (some ⟨h, 0, none⟩)] 31) (Q.length + 2) (by rw [List.getElem?_append_right (by omega), Nat.add_sub_cancel_left]; rfl)
    exact cellAt i0 0 rfl
  clear hbs
  replace S := Lib.hid S
  go_enter Tryz.func40, Tryz.ntmps40
  go_upto_region 1 with fail
  try simp only [World.size_alloc, hb]
  clear hb
  refine regionL (E := [boxE (b + 1 + 1 + 1), heapR h H]) (base := bA) S.out ?_
  clear S
  refine quietL (hy := fun E Wx hSw => by ((have u0 := C0.out _ _ hSw); go_simp; exact ⟨rfl, hSw⟩)) (h := ?_)
  simp only [Act.put, pa]; try dsimp only [List.set]
  refine quietL (hy := fun E Wx hSw => by ((refine and3 (C1.out _ _ hSw) fun u0 u1 u2 => ?_); go_simp; exact ⟨rfl, hSw⟩)) (h := ?_)
  simp only [Act.put, pa]; try dsimp only [List.set]
  refine quietL (hy := fun E Wx hSw => by ((refine and3 (C2.out _ _ hSw) fun u0 u1 u2 => ?_); go_simp; exact ⟨rfl, hSw⟩)) (h := ?_)
  simp only [Act.put, pa]; try dsimp only [List.set]
  iterate 2 (refine quietL ?_; simp only [Act.put, pa]; try dsimp only [List.set])
  refine detL (.agg #[.string keyError, .int .i64 y.kind, .int .i64 y.n, .string y.s, .bool true]) [boxE (b + 1 + 1 + 1), heapR h (H.del x y)] (h1 := fun Wx hSw => by (go_simp; refine symCall ?_; rw [HBS.out] at hSw ⊢; exact chg_rem_no hSw 1 (by rfl) x y (i4 := 4) (p4 := b) (i5 := 3) (p5 := b + 1) (i6 := 2) (p6 := b + 1 + 1) rfl rfl rfl (by omega) (by omega) (by omega) _ Qhl.out Qhd.out Qhk.out Qhc.out)) (h2 := ?_)
  simp only [Act.put, pa]; try dsimp only [List.set]
  refine detL undef [boxX (b + 1 + 1 + 1) keyError y.kind y.n y.s true, heapR h (H.del x y)] (h1 := fun Wx hSw => by (have hz := hSw.box (b := (b + 1 + 1 + 1)) (o := objE) 0 rfl; refine useZ5 hz fun z0 z1 z2 z3 z4 y0 y1 y2 y3 y4 => ?_; go_simp; exact ⟨rfl, hSw.set5 0 rfl (.string keyError) (.int .i64 y.kind) (.int .i64 y.n) (.string y.s) (.bool true)⟩)) (h2 := ?_)
  simp only [Act.put, pa]; try dsimp only [List.set]
  intro w1 S
  replace S := Lib.hid S
  replace S := S.out
  refine useR5 (S.box (b := b + 1 + 1 + 1) (o := objX keyError y.kind y.n y.s true) 0 rfl) fun r0 r1 r2 r3 r4 => ?_
  replace S := Lib.hid S
  go_wp2
  refine bodyPost_ret (v := .agg #[.string keyError, .int .i64 y.kind, .int .i64 y.n, .string y.s, .bool true]) (by simp [results, Tryz.results40, go_sem, r0, r1, r2, r3, r4]) rfl ⟨rfl, ?_⟩
  replace S := S.out
  rw [HBS.out] at S
  exact HF.out _ _ (S.sub (Qs := heapR h (H.del x y) :: Rt) (.cons _ (.cons_cons _ (.cons _ (.cons _ (.cons _ (List.Sublist.refl _)))))))
end
end Go.Proofs.YtellmfimmghidaaGreat
