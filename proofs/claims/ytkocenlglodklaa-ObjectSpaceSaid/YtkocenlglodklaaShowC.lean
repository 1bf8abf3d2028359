/- ch 14's example: the walk. -/
import Derived.Test.YtkocenlglodklaaShowB
import Derived.Test.YtkocenlglodklaaRegT
namespace Go.Proofs.Ytkocenlglodklaa
set_option linter.unusedSimpArgs false
open Go.RowKit
set_option linter.unusedVariables false
abbrev refB (q : Nat) (n : Int) : Res := boxR q (.cells #[.int .i64 4, .int .i64 n, .string ⟨#[]⟩] 33)
set_option maxRecDepth 100000 in
set_option maxHeartbeats 12800000 in
theorem shown_ok (w : World) : Calls Try.prog 11 #[] w fun e W' => e = .returned (.bool true) ∧ Below w.heap.size w W' := by
  have N0 := Lib.hid (Sep.new (Sep.start (Below.refl w.heap.size w)))
  go_enter Try.func11, Try.ntmps11
  go_wp2_with fail
  refine N0.out.mono ?_
  rintro e w1 ⟨h, rfl, S, -⟩
  replace S : Sep w [heapR h KO.H0] w1 := S
  clear N0
  have M := Lib.hid (ko_1 S 0 rfl)
  clear S
  go_wp2_with fail
  refine M.out.mono ?_
  rintro e w2 ⟨rfl, S⟩
  clear M
  replace S : Sep w [heapR h KO.H1] w2 := S
  obtain ⟨x2, hx2⟩ : ∃ gx_, (w2.heap.size) = gx_ := ⟨_, rfl⟩
  replace S := (S.alloc (.cells #[.int .i64 4, .int .i64 1, .string ⟨#[]⟩] 33))
  simp only [World.size_alloc, hx2] at S
  replace S : Sep w [boxR x2 (.cells #[.int .i64 4, .int .i64 1, .string ⟨#[]⟩] 33), heapR h KO.H1] _ := S
  have M := Lib.hid (ko_2 S 1 rfl)
  clear S
  go_wp2_with fail
  try simp only [hx2]
  refine M.out.mono ?_
  rintro e w3 ⟨rfl, S⟩
  clear M hx2
  replace S : Sep w [boxR x2 (.cells #[.int .i64 4, .int .i64 1, .string ⟨#[]⟩] 33), heapR h KO.H2] w3 := S
  obtain ⟨x3, hx3⟩ : ∃ gx_, (w3.heap.size) = gx_ := ⟨_, rfl⟩
  replace S := (S.alloc (.cells #[.int .i64 4, .int .i64 2, .string ⟨#[]⟩] 33))
  simp only [World.size_alloc, hx3] at S
  replace S : Sep w [boxR x3 (.cells #[.int .i64 4, .int .i64 2, .string ⟨#[]⟩] 33), boxR x2 (.cells #[.int .i64 4, .int .i64 1, .string ⟨#[]⟩] 33), heapR h KO.H2] _ := S
  obtain ⟨baseA, hbaseA⟩ : ∃ base, base = [boxR x3 (.cells #[.int .i64 4, .int .i64 2, .string ⟨#[]⟩] 33), boxR x2 (.cells #[.int .i64 4, .int .i64 1, .string ⟨#[]⟩] 33), heapR h KO.H2] := ⟨_, rfl⟩
  have HbaseA := Lib.hid hbaseA
  obtain ⟨baseB, hbaseB⟩ : ∃ base, base = [boxR x3 (.cells #[.int .i64 4, .int .i64 2, .string ⟨#[]⟩] 33), boxR x2 (.cells #[.int .i64 4, .int .i64 1, .string ⟨#[]⟩] 33), heapR h KO.H3] := ⟨_, rfl⟩
  have HbaseB := Lib.hid hbaseB
  replace S : Sep w baseA (w3.alloc (.cells #[.int .i64 4, .int .i64 2, .string ⟨#[]⟩] 33)) := by rw [hbaseA]; exact S
  have KS : Hid (∀ W (Q : List Res), Sep w (Q ++ baseA) W → Calls Try.prog 36 #[.string ⟨#[102]⟩] W fun e W' => e = .returned (.agg #[.int .i64 3, .int .i64 0, .string ⟨#[102]⟩]) ∧ Sep w (Q ++ baseA) W') := Lib.hid fun W Q T => by
    exact (str_ok W _).mono fun e W' ⟨e1, e2⟩ => ⟨e1, T.later e2⟩
  have KP : Hid (∀ W (Q : List Res), Sep w (Q ++ baseA) W → Calls Try.prog 31 #[.pointer (some ⟨h, 0, none⟩), .agg #[.int .i64 4, .int .i64 1, .string ⟨#[]⟩], .agg #[.int .i64 3, .int .i64 0, .string ⟨#[102]⟩], .agg #[.int .i64 4, .int .i64 2, .string ⟨#[]⟩]] W fun e W' => e = .returned (.bool true) ∧ Sep w (Q ++ baseB) W') := Lib.hid fun W Q T => by
    rw [HbaseA.out] at T
    rw [HbaseB.out]
    have hh := ko_3 T (Q.length + 2) (by rw [List.getElem?_append_right (by omega), Nat.add_sub_cancel_left]; rfl)
    try rw [List.set_append_right _ _ (by omega), Nat.add_sub_cancel_left] at hh
    exact hh
  have KbaseA : Hid (∀ W (Q : List Res), Sep w (Q ++ baseA) W → W.cell? ⟨x2, 0, none⟩ = some (.int .i64 4) ∧ W.cell? ⟨x2, 1, none⟩ = some (.int .i64 1) ∧ W.cell? ⟨x2, 2, none⟩ = some (.string ⟨#[]⟩) ∧ W.cell? ⟨x3, 0, none⟩ = some (.int .i64 4) ∧ W.cell? ⟨x3, 1, none⟩ = some (.int .i64 2) ∧ W.cell? ⟨x3, 2, none⟩ = some (.string ⟨#[]⟩)) := Lib.hid fun W Q T => by
    rw [hbaseA] at T
    have i0 := T.box (b := x2) (o := .cells #[.int .i64 4, .int .i64 1, .string ⟨#[]⟩] 33) (Q.length + 1) (by rw [List.getElem?_append_right (by omega), Nat.add_sub_cancel_left]; rfl)
    have i1 := T.box (b := x3) (o := .cells #[.int .i64 4, .int .i64 2, .string ⟨#[]⟩] 33) (Q.length + 0) (by rw [List.getElem?_append_right (by omega), Nat.add_sub_cancel_left]; rfl)
    exact ⟨cellAt i0 0 rfl, cellAt i0 1 rfl, cellAt i0 2 rfl, cellAt i1 0 rfl, cellAt i1 1 rfl, cellAt i1 2 rfl⟩
  have KbaseB : Hid (∀ W (Q : List Res), Sep w (Q ++ baseB) W → W.cell? ⟨x2, 0, none⟩ = some (.int .i64 4) ∧ W.cell? ⟨x2, 1, none⟩ = some (.int .i64 1) ∧ W.cell? ⟨x2, 2, none⟩ = some (.string ⟨#[]⟩) ∧ W.cell? ⟨x3, 0, none⟩ = some (.int .i64 4) ∧ W.cell? ⟨x3, 1, none⟩ = some (.int .i64 2) ∧ W.cell? ⟨x3, 2, none⟩ = some (.string ⟨#[]⟩)) := Lib.hid fun W Q T => by
    rw [hbaseB] at T
    have i0 := T.box (b := x2) (o := .cells #[.int .i64 4, .int .i64 1, .string ⟨#[]⟩] 33) (Q.length + 1) (by rw [List.getElem?_append_right (by omega), Nat.add_sub_cancel_left]; rfl)
    have i1 := T.box (b := x3) (o := .cells #[.int .i64 4, .int .i64 2, .string ⟨#[]⟩] 33) (Q.length + 0) (by rw [List.getElem?_append_right (by omega), Nat.add_sub_cancel_left]; rfl)
    exact ⟨cellAt i0 0 rfl, cellAt i0 1 rfl, cellAt i0 2 rfl, cellAt i1 0 rfl, cellAt i1 1 rfl, cellAt i1 2 rfl⟩
  replace S := Lib.hid S
  clear hbaseA hbaseB
  go_upto_region 6 with fail
  try simp only [hx3]
  obtain ⟨W6, hW⟩ : ∃ gx_, (w3.alloc (.cells #[.int .i64 4, .int .i64 2, .string ⟨#[]⟩] 33)) = gx_ := ⟨_, rfl⟩
  rw [hW] at S ⊢
  clear hW hx3
  go_cut [] from 21 (fun  wx => Sep w baseB wx)
  case first =>
    have T0 : Sep w ([] ++ baseA) _ := S.out.drew
    clear S
    as_aux_lemma =>
      refine wp_region_held_drew (S := fun W => W.cell? ⟨x2, 0, none⟩ = some (.int .i64 4) ∧ W.cell? ⟨x2, 1, none⟩ = some (.int .i64 1) ∧ W.cell? ⟨x2, 2, none⟩ = some (.string ⟨#[]⟩) ∧ W.cell? ⟨x3, 0, none⟩ = some (.int .i64 4) ∧ W.cell? ⟨x3, 1, none⟩ = some (.int .i64 2) ∧ W.cell? ⟨x3, 2, none⟩ = some (.string ⟨#[]⟩)) (by kernel_rfl) (KbaseA.out _ [] T0) (fun hH => ?_)
      refine takeT 0 hH (hy := .inl ⟨by rfl, by (intro w hSw; try obtain ⟨u0, u1, u2, u3, u4, u5⟩ := hSw); (go_simp; try rfl)⟩) (h := ?_)
      simp only [Act.put, List.setIfInBounds_toArray, List.set_cons_zero, List.set_cons_succ]
      refine takeT 1 hH (hy := .inl ⟨by rfl, by (intro w hSw; try obtain ⟨u0, u1, u2, u3, u4, u5⟩ := hSw); (go_simp; try rfl)⟩) (h := ?_)
      simp only [Act.put, List.setIfInBounds_toArray, List.set_cons_zero, List.set_cons_succ]
      refine takeT 3 hH (hy := .inl ⟨by rfl, by (intro w hSw; try obtain ⟨u0, u1, u2, u3, u4, u5⟩ := hSw); (go_simp; try rfl)⟩) (h := ?_)
      simp only [Act.put, List.setIfInBounds_toArray, List.set_cons_zero, List.set_cons_succ]
      refine readyT [2] ?_
      refine consT (fun K hK => ?_) AllReadyH.nil
      go_simp
      go_wp2_with (go_at_call 36; refine (KS.out _ [] T0).mono ?_; rintro e w1 ⟨rfl, T1⟩)
      clear hH
      refine hK.out _ _ (KbaseA.out _ [] T1) (fun hH => ?_)
      clear hK K
      refine readyT [4] ?_
      refine consT (fun K hK => ?_) AllReadyH.nil
      go_simp
      go_wp2_with (go_at_call 31; refine (KP.out _ [] T1).mono ?_; rintro e w2 ⟨rfl, T2⟩)
      clear hH
      refine hK.out _ _ (KbaseB.out _ [] T2) (fun hH => ?_)
      clear hK K
      refine wpAnyH_done (by kernel_rfl) ?_ _
      as_aux_lemma =>
        go_wp2_with fail
        go_meet
        exact T2
  case rest =>
    rw [HbaseB.out] at hcut
    have S : Sep w [boxR x3 (.cells #[.int .i64 4, .int .i64 2, .string ⟨#[]⟩] 33), boxR x2 (.cells #[.int .i64 4, .int .i64 1, .string ⟨#[]⟩] 33), heapR h KO.H3] _ := hcut
    clear KS KP KbaseA KbaseB hcut
    have d0 := cellAt (S.box 1 rfl) 0 (v := .int .i64 4) rfl
    have d1 := cellAt (S.box 1 rfl) 1 (v := .int .i64 1) rfl
    have d2 := cellAt (S.box 1 rfl) 2 (v := .string ⟨#[]⟩) rfl
    have M := Lib.hid (ko_4 S 2 rfl)
    clear S
    go_wp2_with fail
    refine M.out.mono ?_
    rintro e w4 ⟨rfl, S⟩
    clear M d0 d1 d2
    replace S : Sep w [boxR x3 (.cells #[.int .i64 4, .int .i64 2, .string ⟨#[]⟩] 33), boxR x2 (.cells #[.int .i64 4, .int .i64 1, .string ⟨#[]⟩] 33), heapR h KO.H4] w4 := S
    obtain ⟨x4, hx4⟩ : ∃ gx_, (w4.heap.size) = gx_ := ⟨_, rfl⟩
    replace S := ((S.alloc (.cells #[.int .i64 4, .int .i64 3, .string ⟨#[]⟩] 33)).alloc (.cells #[.string ⟨#[]⟩, .int .i64 0, .int .i64 0, .string ⟨#[]⟩, .bool false] 45))
    simp only [World.size_alloc, hx4] at S
    replace S : Sep w [boxR (x4 + 1) (.cells #[.string ⟨#[]⟩, .int .i64 0, .int .i64 0, .string ⟨#[]⟩, .bool false] 45), boxR x4 (.cells #[.int .i64 4, .int .i64 3, .string ⟨#[]⟩] 33), boxR x3 (.cells #[.int .i64 4, .int .i64 2, .string ⟨#[]⟩] 33), boxR x2 (.cells #[.int .i64 4, .int .i64 1, .string ⟨#[]⟩] 33), heapR h KO.H4] _ := S
    obtain ⟨baseC, hbaseC⟩ : ∃ base, base = [boxR (x4 + 1) (.cells #[.string ⟨#[]⟩, .int .i64 0, .int .i64 0, .string ⟨#[]⟩, .bool false] 45), boxR x4 (.cells #[.int .i64 4, .int .i64 3, .string ⟨#[]⟩] 33), boxR x3 (.cells #[.int .i64 4, .int .i64 2, .string ⟨#[]⟩] 33), boxR x2 (.cells #[.int .i64 4, .int .i64 1, .string ⟨#[]⟩] 33), heapR h KO.H4] := ⟨_, rfl⟩
    have HbaseC := Lib.hid hbaseC
    obtain ⟨baseD, hbaseD⟩ : ∃ base, base = [boxR (x4 + 1) (.cells #[.string ⟨#[]⟩, .int .i64 0, .int .i64 0, .string ⟨#[]⟩, .bool false] 45), boxR x4 (.cells #[.int .i64 4, .int .i64 3, .string ⟨#[]⟩] 33), boxR x3 (.cells #[.int .i64 4, .int .i64 2, .string ⟨#[]⟩] 33), boxR x2 (.cells #[.int .i64 4, .int .i64 1, .string ⟨#[]⟩] 33), heapR h KO.H5] := ⟨_, rfl⟩
    have HbaseD := Lib.hid hbaseD
    obtain ⟨baseE, hbaseE⟩ : ∃ base, base = [boxR (x4 + 1) (.cells #[.string ⟨#[]⟩, .int .i64 0, .int .i64 0, .string ⟨#[]⟩, .bool false] 45), boxR x4 (.cells #[.int .i64 4, .int .i64 3, .string ⟨#[]⟩] 33), boxR x3 (.cells #[.int .i64 4, .int .i64 2, .string ⟨#[]⟩] 33), boxR x2 (.cells #[.int .i64 4, .int .i64 1, .string ⟨#[]⟩] 33), heapR h KO.H6] := ⟨_, rfl⟩
    have HbaseE := Lib.hid hbaseE
    replace S : Sep w baseC ((w4.alloc (.cells #[.int .i64 4, .int .i64 3, .string ⟨#[]⟩] 33)).alloc (.cells #[.string ⟨#[]⟩, .int .i64 0, .int .i64 0, .string ⟨#[]⟩, .bool false] 45)) := by rw [hbaseC]; exact S
    have KM : Hid (∀ W (Q : List Res), Sep w (Q ++ baseC) W → Calls Try.prog 19 #[.pointer (some ⟨h, 0, none⟩), .int .i64 3, .string ⟨#[]⟩, .int .i64 0, .slice none 0 0] W fun e W' => e = .returned (.agg #[.int .i64 4, .int .i64 4, .string ⟨#[]⟩]) ∧ Sep w (Q ++ baseD) W') := Lib.hid fun W Q T => by
      rw [HbaseC.out] at T
      rw [HbaseD.out]
      have hh := ko_5 T (Q.length + 4) (by rw [List.getElem?_append_right (by omega), Nat.add_sub_cancel_left]; rfl)
      try rw [List.set_append_right _ _ (by omega), Nat.add_sub_cancel_left] at hh
      exact hh
    have KC : Hid (∀ W (Q : List Res) (q j : Nat) (hj : Q[j]? = some (valB q KO.r3)), Sep w (Q ++ baseD) W → Calls Try.prog 28 #[.pointer (some ⟨h, 0, none⟩), .string ⟨#[66]⟩, .slice (some ⟨q, 0, none⟩) 1 1, .agg #[.int .i64 4, .int .i64 4, .string ⟨#[]⟩]] W fun e W' => e = .returned (.tuple #[.agg #[.int .i64 4, .int .i64 5, .string ⟨#[]⟩], excZ]) ∧ Sep w (Q ++ baseE) W') := Lib.hid fun W Q q j hj T => by
      rw [HbaseD.out] at T
      rw [HbaseE.out]
      have hh := ko_6 T (Q.length + 4) (by rw [List.getElem?_append_right (by omega), Nat.add_sub_cancel_left]; rfl) q j (by rw [List.getElem?_append_left (List.getElem?_eq_some_iff.1 hj).1]; exact hj)
      try rw [List.set_append_right _ _ (by omega), Nat.add_sub_cancel_left] at hh
      exact hh
    have KbaseC : Hid (∀ W (Q : List Res), Sep w (Q ++ baseC) W → W.cell? ⟨x4, 0, none⟩ = some (.int .i64 4) ∧ W.cell? ⟨x4, 1, none⟩ = some (.int .i64 3) ∧ W.cell? ⟨x4, 2, none⟩ = some (.string ⟨#[]⟩)) := Lib.hid fun W Q T => by
      rw [hbaseC] at T
      have i0 := T.box (b := x4) (o := .cells #[.int .i64 4, .int .i64 3, .string ⟨#[]⟩] 33) (Q.length + 1) (by rw [List.getElem?_append_right (by omega), Nat.add_sub_cancel_left]; rfl)
      exact ⟨cellAt i0 0 rfl, cellAt i0 1 rfl, cellAt i0 2 rfl⟩
    have KbaseD : Hid (∀ W (Q : List Res), Sep w (Q ++ baseD) W → W.cell? ⟨x4, 0, none⟩ = some (.int .i64 4) ∧ W.cell? ⟨x4, 1, none⟩ = some (.int .i64 3) ∧ W.cell? ⟨x4, 2, none⟩ = some (.string ⟨#[]⟩)) := Lib.hid fun W Q T => by
      rw [hbaseD] at T
      have i0 := T.box (b := x4) (o := .cells #[.int .i64 4, .int .i64 3, .string ⟨#[]⟩] 33) (Q.length + 1) (by rw [List.getElem?_append_right (by omega), Nat.add_sub_cancel_left]; rfl)
      exact ⟨cellAt i0 0 rfl, cellAt i0 1 rfl, cellAt i0 2 rfl⟩
    have KbaseE : Hid (∀ W (Q : List Res), Sep w (Q ++ baseE) W → W.cell? ⟨x4, 0, none⟩ = some (.int .i64 4) ∧ W.cell? ⟨x4, 1, none⟩ = some (.int .i64 3) ∧ W.cell? ⟨x4, 2, none⟩ = some (.string ⟨#[]⟩)) := Lib.hid fun W Q T => by
      rw [hbaseE] at T
      have i0 := T.box (b := x4) (o := .cells #[.int .i64 4, .int .i64 3, .string ⟨#[]⟩] 33) (Q.length + 1) (by rw [List.getElem?_append_right (by omega), Nat.add_sub_cancel_left]; rfl)
      exact ⟨cellAt i0 0 rfl, cellAt i0 1 rfl, cellAt i0 2 rfl⟩
    replace S := Lib.hid S
    clear hbaseC hbaseD hbaseE
    go_upto_region 8 with fail
    try simp only [hx4]
    obtain ⟨W8, hW⟩ : ∃ gx_, ((w4.alloc (.cells #[.int .i64 4, .int .i64 3, .string ⟨#[]⟩] 33)).alloc (.cells #[.string ⟨#[]⟩, .int .i64 0, .int .i64 0, .string ⟨#[]⟩, .bool false] 45)) = gx_ := ⟨_, rfl⟩
    rw [hW] at S ⊢
    clear hW hx4
    go_cut [6, 7] from 21 (fun s6 s7 wx => ∃ (Q : List Res) (i j x6 x7 : Nat), s6 = .pointer (some ⟨x6, 0, none⟩) ∧ s7 = .pointer (some ⟨x7, 0, none⟩) ∧ i ≠ j ∧ Q[i]? = some (boxR x7 (.cells #[.string ⟨#[]⟩, .int .i64 0, .int .i64 0, .string ⟨#[]⟩, .bool false] 45)) ∧ Q[j]? = some (boxR x6 (.cells #[.int .i64 4, .int .i64 5, .string ⟨#[]⟩] 33)) ∧ Sep w (Q ++ baseE) wx)
    case first =>
      have T0 : Sep w ([] ++ baseC) _ := S.out.drew
      clear S
      refine wp_region_held_drew (S := fun W => W.cell? ⟨x4, 0, none⟩ = some (.int .i64 4) ∧ W.cell? ⟨x4, 1, none⟩ = some (.int .i64 3) ∧ W.cell? ⟨x4, 2, none⟩ = some (.string ⟨#[]⟩)) (by kernel_rfl) (KbaseC.out _ [] T0) (fun hH => ?_)
      refine takeT 0 hH (hy := .inl ⟨by rfl, by (intro w hSw; try obtain ⟨u0, u1, u2⟩ := hSw); (go_simp; try rfl)⟩) (h := ?_)
      simp only [Act.put, List.setIfInBounds_toArray, List.set_cons_zero, List.set_cons_succ]
      refine takeT 1 hH (hy := .inl ⟨by rfl, by (intro w hSw; try obtain ⟨u0, u1, u2⟩ := hSw); (go_simp; try rfl)⟩) (h := ?_)
      simp only [Act.put, List.setIfInBounds_toArray, List.set_cons_zero, List.set_cons_succ]
      refine takeT 3 hH (hy := .inl ⟨by rfl, by (intro w hSw; try obtain ⟨u0, u1, u2⟩ := hSw); (go_simp; try rfl)⟩) (h := ?_)
      simp only [Act.put, List.setIfInBounds_toArray, List.set_cons_zero, List.set_cons_succ]
      refine readyT [2, 4, 9, 10] ?_
      refine consT (fun K hK => ?_) (consT (fun K hK => ?_) (consT (fun K hK => ?_) (consT (fun K hK => ?_) AllReadyH.nil)))
      · go_simp
        have T1 : Sep w ([refB _ 3] ++ baseC) _ := Sep.alloc T0 (.cells #[.int .i64 4, .int .i64 3, .string ⟨#[]⟩] 33)
        try simp only [size_drew, World.size_alloc] at T1
        clear hH
        refine hK.out _ _ (KbaseC.out _ [_] T1) (fun hH => ?_)
        clear hK K
        refine readyT [4, 9, 10] ?_
        refine consT (fun K hK => ?_) (consT (fun K hK => ?_) (consT (fun K hK => ?_) AllReadyH.nil))
        · go_simp
          go_wp2_with (go_at_call 19; refine (KM.out _ [_] T1).mono ?_; rintro e w2 ⟨rfl, T2⟩)
          clear hH
          refine hK.out _ _ (KbaseD.out _ [_] T2) (fun hH => ?_)
          clear hK K
          refine readyT [5, 9, 10] ?_
          refine consT (fun K hK => ?_) (consT (fun K hK => ?_) (consT (fun K hK => ?_) AllReadyH.nil))
          · go_simp
            go_wp2_with (go_at_call 28; refine (KC.out _ [_] _ 0 rfl T2).mono ?_; rintro e w3 ⟨rfl, T3⟩)
            clear hH
            refine hK.out _ _ (KbaseE.out _ [_] T3) (fun hH => ?_)
            clear hK K
            refine takeT 6 hH (hy := .inl ⟨by rfl, by (intro w hSw; try obtain ⟨u0, u1, u2⟩ := hSw); (go_simp; try rfl)⟩) (h := ?_)
            simp only [Act.put, List.setIfInBounds_toArray, List.set_cons_zero, List.set_cons_succ]
            refine takeT 7 hH (hy := .inl ⟨by rfl, by (intro w hSw; try obtain ⟨u0, u1, u2⟩ := hSw); (go_simp; try rfl)⟩) (h := ?_)
            simp only [Act.put, List.setIfInBounds_toArray, List.set_cons_zero, List.set_cons_succ]
            refine takeT 8 hH (hy := .inl ⟨by rfl, by (intro w hSw; try obtain ⟨u0, u1, u2⟩ := hSw); (go_simp; try rfl)⟩) (h := ?_)
            simp only [Act.put, List.setIfInBounds_toArray, List.set_cons_zero, List.set_cons_succ]
            refine readyT [9, 10] ?_
            refine consT (fun K hK => ?_) (consT (fun K hK => ?_) AllReadyH.nil)
            · go_simp
              have T4 : Sep w ([zeroB _, refB _ 3] ++ baseE) _ := Sep.alloc T3 (.cells #[.int .i64 0, .int .i64 0, .string ⟨#[]⟩] 33)
              try simp only [size_drew, World.size_alloc] at T4
              clear hH
              refine hK.out _ _ (KbaseE.out _ [_, _] T4) (fun hH => ?_)
              clear hK K
              refine readyT [10] ?_
              refine consT (fun K hK => ?_) AllReadyH.nil
              go_simp
              have T5 : Sep w ([excB _ ⟨#[]⟩, zeroB _, refB _ 3] ++ baseE) _ := Sep.alloc T4 (.cells #[.string ⟨#[]⟩, .int .i64 0, .int .i64 0, .string ⟨#[]⟩, .bool false] 45)
              try simp only [size_drew, World.size_alloc] at T5
              clear hH
              refine hK.out _ _ (KbaseE.out _ [_, _, _] T5) (fun hH => ?_)
              clear hK K
              refine readyT [11] ?_
              refine consT (fun K hK => ?_) AllReadyH.nil
              have hz := T5.box 1 rfl
              have z0 := cellAt hz 0 (v := .int .i64 0) rfl
              have z1 := cellAt hz 1 (v := .int .i64 0) rfl
              have z2 := cellAt hz 2 (v := .string ⟨#[]⟩) rfl
              have z3 := frozenAt hz 0
              have z4 := frozenAt hz 1
              have z5 := frozenAt hz 2
              go_simp
              clear hz z0 z1 z2 z3 z4 z5
              clear hH
              have T6 : Sep w ([excB _ ⟨#[]⟩, refB _ 5, refB _ 3] ++ baseE) _ := (Sep.alloc (Sep.alloc T3 (.cells #[.int .i64 4, .int .i64 5, .string ⟨#[]⟩] 33)) (.cells #[.string ⟨#[]⟩, .int .i64 0, .int .i64 0, .string ⟨#[]⟩, .bool false] 45))
              try simp only [size_drew, World.size_alloc] at T6
              refine hK.out _ _ (KbaseE.out _ [_, _, _] T6) (fun hH => ?_)
              clear hK K
              refine readyT [12] ?_
              refine consT (fun K hK => ?_) AllReadyH.nil
              have hz := T6.box 0 rfl
              have z0 := cellAt hz 0 (v := .string ⟨#[]⟩) rfl
              have z1 := cellAt hz 1 (v := .int .i64 0) rfl
              have z2 := cellAt hz 2 (v := .int .i64 0) rfl
              have z3 := cellAt hz 3 (v := .string ⟨#[]⟩) rfl
              have z4 := cellAt hz 4 (v := .bool false) rfl
              have z5 := frozenAt hz 0
              have z6 := frozenAt hz 1
              have z7 := frozenAt hz 2
              have z8 := frozenAt hz 3
              have z9 := frozenAt hz 4
              go_simp
              clear hz z0 z1 z2 z3 z4 z5 z6 z7 z8 z9
              clear hH
              have T7 : Sep w ([excB _ ⟨#[]⟩, refB _ 5, refB _ 3] ++ baseE) _ := (Sep.alloc (Sep.alloc T3 (.cells #[.int .i64 4, .int .i64 5, .string ⟨#[]⟩] 33)) (.cells #[.string ⟨#[]⟩, .int .i64 0, .int .i64 0, .string ⟨#[]⟩, .bool false] 45))
              try simp only [size_drew, World.size_alloc] at T7
              refine hK.out _ _ (KbaseE.out _ [_, _, _] T7) (fun hH => ?_)
              clear hK K
              refine wpAnyH_done (by kernel_rfl) ?_ _
              as_aux_lemma =>
                go_wp2_with fail
                go_meet
                exact ⟨[_, _, _], 0, 1, _, _, rfl, rfl, by decide, rfl, rfl, T7⟩
            · go_simp
              have T8 : Sep w ([excB _ ⟨#[]⟩, refB _ 3] ++ baseE) _ := Sep.alloc T3 (.cells #[.string ⟨#[]⟩, .int .i64 0, .int .i64 0, .string ⟨#[]⟩, .bool false] 45)
              try simp only [size_drew, World.size_alloc] at T8
              clear hH
              refine hK.out _ _ (KbaseE.out _ [_, _] T8) (fun hH => ?_)
              clear hK K
              refine readyT [9] ?_
              refine consT (fun K hK => ?_) AllReadyH.nil
              go_simp
              have T9 : Sep w ([zeroB _, excB _ ⟨#[]⟩, refB _ 3] ++ baseE) _ := Sep.alloc T8 (.cells #[.int .i64 0, .int .i64 0, .string ⟨#[]⟩] 33)
              try simp only [size_drew, World.size_alloc] at T9
              clear hH
              refine hK.out _ _ (KbaseE.out _ [_, _, _] T9) (fun hH => ?_)
              clear hK K
              refine readyT [11] ?_
              refine consT (fun K hK => ?_) AllReadyH.nil
              have hz := T9.box 0 rfl
              have z0 := cellAt hz 0 (v := .int .i64 0) rfl
              have z1 := cellAt hz 1 (v := .int .i64 0) rfl
              have z2 := cellAt hz 2 (v := .string ⟨#[]⟩) rfl
              have z3 := frozenAt hz 0
              have z4 := frozenAt hz 1
              have z5 := frozenAt hz 2
              go_simp
              clear hz z0 z1 z2 z3 z4 z5
              clear hH
              have T10 : Sep w ([refB _ 5, excB _ ⟨#[]⟩, refB _ 3] ++ baseE) _ := (Sep.alloc (Sep.alloc T3 (.cells #[.string ⟨#[]⟩, .int .i64 0, .int .i64 0, .string ⟨#[]⟩, .bool false] 45)) (.cells #[.int .i64 4, .int .i64 5, .string ⟨#[]⟩] 33))
              try simp only [size_drew, World.size_alloc] at T10
              refine hK.out _ _ (KbaseE.out _ [_, _, _] T10) (fun hH => ?_)
              clear hK K
              refine readyT [12] ?_
              refine consT (fun K hK => ?_) AllReadyH.nil
              have hz := T10.box 1 rfl
              have z0 := cellAt hz 0 (v := .string ⟨#[]⟩) rfl
              have z1 := cellAt hz 1 (v := .int .i64 0) rfl
              have z2 := cellAt hz 2 (v := .int .i64 0) rfl
              have z3 := cellAt hz 3 (v := .string ⟨#[]⟩) rfl
              have z4 := cellAt hz 4 (v := .bool false) rfl
              have z5 := frozenAt hz 0
              have z6 := frozenAt hz 1
              have z7 := frozenAt hz 2
              have z8 := frozenAt hz 3
              have z9 := frozenAt hz 4
              go_simp
              clear hz z0 z1 z2 z3 z4 z5 z6 z7 z8 z9
              clear hH
              have T11 : Sep w ([refB _ 5, excB _ ⟨#[]⟩, refB _ 3] ++ baseE) _ := (Sep.alloc (Sep.alloc T3 (.cells #[.string ⟨#[]⟩, .int .i64 0, .int .i64 0, .string ⟨#[]⟩, .bool false] 45)) (.cells #[.int .i64 4, .int .i64 5, .string ⟨#[]⟩] 33))
              try simp only [size_drew, World.size_alloc] at T11
              refine hK.out _ _ (KbaseE.out _ [_, _, _] T11) (fun hH => ?_)
              clear hK K
              refine wpAnyH_done (by kernel_rfl) ?_ _
              as_aux_lemma =>
                go_wp2_with fail
                go_meet
                exact ⟨[_, _, _], 1, 0, _, _, rfl, rfl, by decide, rfl, rfl, T11⟩
          · go_simp
            have T12 : Sep w ([zeroB _, refB _ 3] ++ baseD) _ := Sep.alloc T2 (.cells #[.int .i64 0, .int .i64 0, .string ⟨#[]⟩] 33)
            try simp only [size_drew, World.size_alloc] at T12
            clear hH
            refine hK.out _ _ (KbaseD.out _ [_, _] T12) (fun hH => ?_)
            clear hK K
            refine readyT [5, 10] ?_
            refine consT (fun K hK => ?_) (consT (fun K hK => ?_) AllReadyH.nil)
            · go_simp
              go_wp2_with (go_at_call 28; refine (KC.out _ [_, _] _ 1 rfl T12).mono ?_; rintro e w13 ⟨rfl, T13⟩)
              clear hH
              refine hK.out _ _ (KbaseE.out _ [_, _] T13) (fun hH => ?_)
              clear hK K
              refine takeT 6 hH (hy := .inl ⟨by rfl, by (intro w hSw; try obtain ⟨u0, u1, u2⟩ := hSw); (go_simp; try rfl)⟩) (h := ?_)
              simp only [Act.put, List.setIfInBounds_toArray, List.set_cons_zero, List.set_cons_succ]
              refine takeT 7 hH (hy := .inl ⟨by rfl, by (intro w hSw; try obtain ⟨u0, u1, u2⟩ := hSw); (go_simp; try rfl)⟩) (h := ?_)
              simp only [Act.put, List.setIfInBounds_toArray, List.set_cons_zero, List.set_cons_succ]
              refine takeT 8 hH (hy := .inl ⟨by rfl, by (intro w hSw; try obtain ⟨u0, u1, u2⟩ := hSw); (go_simp; try rfl)⟩) (h := ?_)
              simp only [Act.put, List.setIfInBounds_toArray, List.set_cons_zero, List.set_cons_succ]
              refine readyT [10] ?_
              refine consT (fun K hK => ?_) AllReadyH.nil
              go_simp
              have T14 : Sep w ([excB _ ⟨#[]⟩, zeroB _, refB _ 3] ++ baseE) _ := Sep.alloc T13 (.cells #[.string ⟨#[]⟩, .int .i64 0, .int .i64 0, .string ⟨#[]⟩, .bool false] 45)
              try simp only [size_drew, World.size_alloc] at T14
              clear hH
              refine hK.out _ _ (KbaseE.out _ [_, _, _] T14) (fun hH => ?_)
              clear hK K
              refine readyT [11] ?_
              refine consT (fun K hK => ?_) AllReadyH.nil
              have hz := T14.box 1 rfl
              have z0 := cellAt hz 0 (v := .int .i64 0) rfl
              have z1 := cellAt hz 1 (v := .int .i64 0) rfl
              have z2 := cellAt hz 2 (v := .string ⟨#[]⟩) rfl
              have z3 := frozenAt hz 0
              have z4 := frozenAt hz 1
              have z5 := frozenAt hz 2
              go_simp
              clear hz z0 z1 z2 z3 z4 z5
              clear hH
              have T15 : Sep w ([excB _ ⟨#[]⟩, refB _ 5, refB _ 3] ++ baseE) _ := (Sep.setBox (cs := #[.int .i64 4, .int .i64 5, .string ⟨#[]⟩]) (t := 33) (Sep.setBox (cs := #[.int .i64 4, .int .i64 0, .string ⟨#[]⟩]) (t := 33) (Sep.setBox (cs := #[.int .i64 0, .int .i64 0, .string ⟨#[]⟩]) (t := 33) T14 1 rfl 0 (.int .i64 4)) 1 rfl 1 (.int .i64 5)) 1 rfl 2 (.string ⟨#[]⟩))
              try simp only [size_drew, World.size_alloc] at T15
              refine hK.out _ _ (KbaseE.out _ [_, _, _] T15) (fun hH => ?_)
              clear hK K
              refine readyT [12] ?_
              refine consT (fun K hK => ?_) AllReadyH.nil
              have hz := T15.box 0 rfl
              have z0 := cellAt hz 0 (v := .string ⟨#[]⟩) rfl
              have z1 := cellAt hz 1 (v := .int .i64 0) rfl
              have z2 := cellAt hz 2 (v := .int .i64 0) rfl
              have z3 := cellAt hz 3 (v := .string ⟨#[]⟩) rfl
              have z4 := cellAt hz 4 (v := .bool false) rfl
              have z5 := frozenAt hz 0
              have z6 := frozenAt hz 1
              have z7 := frozenAt hz 2
              have z8 := frozenAt hz 3
              have z9 := frozenAt hz 4
              go_simp
              clear hz z0 z1 z2 z3 z4 z5 z6 z7 z8 z9
              clear hH
              have T16 : Sep w ([excB _ ⟨#[]⟩, refB _ 5, refB _ 3] ++ baseE) _ := (Sep.setBox (cs := #[.string ⟨#[]⟩, .int .i64 0, .int .i64 0, .string ⟨#[]⟩, .bool false]) (t := 45) (Sep.setBox (cs := #[.string ⟨#[]⟩, .int .i64 0, .int .i64 0, .string ⟨#[]⟩, .bool false]) (t := 45) (Sep.setBox (cs := #[.string ⟨#[]⟩, .int .i64 0, .int .i64 0, .string ⟨#[]⟩, .bool false]) (t := 45) (Sep.setBox (cs := #[.string ⟨#[]⟩, .int .i64 0, .int .i64 0, .string ⟨#[]⟩, .bool false]) (t := 45) (Sep.setBox (cs := #[.string ⟨#[]⟩, .int .i64 0, .int .i64 0, .string ⟨#[]⟩, .bool false]) (t := 45) T15 0 rfl 0 (.string ⟨#[]⟩)) 0 rfl 1 (.int .i64 0)) 0 rfl 2 (.int .i64 0)) 0 rfl 3 (.string ⟨#[]⟩)) 0 rfl 4 (.bool false))
              try simp only [size_drew, World.size_alloc] at T16
              refine hK.out _ _ (KbaseE.out _ [_, _, _] T16) (fun hH => ?_)
              clear hK K
              refine wpAnyH_done (by kernel_rfl) ?_ _
              as_aux_lemma =>
                go_wp2_with fail
                go_meet
                exact ⟨[_, _, _], 0, 1, _, _, rfl, rfl, by decide, rfl, rfl, T16⟩
            · go_simp
              have T17 : Sep w ([excB _ ⟨#[]⟩, zeroB _, refB _ 3] ++ baseD) _ := Sep.alloc T12 (.cells #[.string ⟨#[]⟩, .int .i64 0, .int .i64 0, .string ⟨#[]⟩, .bool false] 45)
              try simp only [size_drew, World.size_alloc] at T17
              clear hH
              refine hK.out _ _ (KbaseD.out _ [_, _, _] T17) (fun hH => ?_)
              clear hK K
              refine readyT [5] ?_
              refine consT (fun K hK => ?_) AllReadyH.nil
              go_simp
              go_wp2_with (go_at_call 28; refine (KC.out _ [_, _, _] _ 2 rfl T17).mono ?_; rintro e w18 ⟨rfl, T18⟩)
              clear hH
              refine hK.out _ _ (KbaseE.out _ [_, _, _] T18) (fun hH => ?_)
              clear hK K
              refine takeT 6 hH (hy := .inl ⟨by rfl, by (intro w hSw; try obtain ⟨u0, u1, u2⟩ := hSw); (go_simp; try rfl)⟩) (h := ?_)
              simp only [Act.put, List.setIfInBounds_toArray, List.set_cons_zero, List.set_cons_succ]
              refine takeT 7 hH (hy := .inl ⟨by rfl, by (intro w hSw; try obtain ⟨u0, u1, u2⟩ := hSw); (go_simp; try rfl)⟩) (h := ?_)
              simp only [Act.put, List.setIfInBounds_toArray, List.set_cons_zero, List.set_cons_succ]
              refine takeT 8 hH (hy := .inl ⟨by rfl, by (intro w hSw; try obtain ⟨u0, u1, u2⟩ := hSw); (go_simp; try rfl)⟩) (h := ?_)
              simp only [Act.put, List.setIfInBounds_toArray, List.set_cons_zero, List.set_cons_succ]
              refine readyT [11] ?_
              refine consT (fun K hK => ?_) AllReadyH.nil
              have hz := T18.box 1 rfl
              have z0 := cellAt hz 0 (v := .int .i64 0) rfl
              have z1 := cellAt hz 1 (v := .int .i64 0) rfl
              have z2 := cellAt hz 2 (v := .string ⟨#[]⟩) rfl
              have z3 := frozenAt hz 0
              have z4 := frozenAt hz 1
              have z5 := frozenAt hz 2
              go_simp
              clear hz z0 z1 z2 z3 z4 z5
              clear hH
              have T19 : Sep w ([excB _ ⟨#[]⟩, refB _ 5, refB _ 3] ++ baseE) _ := (Sep.setBox (cs := #[.int .i64 4, .int .i64 5, .string ⟨#[]⟩]) (t := 33) (Sep.setBox (cs := #[.int .i64 4, .int .i64 0, .string ⟨#[]⟩]) (t := 33) (Sep.setBox (cs := #[.int .i64 0, .int .i64 0, .string ⟨#[]⟩]) (t := 33) T18 1 rfl 0 (.int .i64 4)) 1 rfl 1 (.int .i64 5)) 1 rfl 2 (.string ⟨#[]⟩))
              try simp only [size_drew, World.size_alloc] at T19
              refine hK.out _ _ (KbaseE.out _ [_, _, _] T19) (fun hH => ?_)
              clear hK K
              refine readyT [12] ?_
              refine consT (fun K hK => ?_) AllReadyH.nil
              have hz := T19.box 0 rfl
              have z0 := cellAt hz 0 (v := .string ⟨#[]⟩) rfl
              have z1 := cellAt hz 1 (v := .int .i64 0) rfl
              have z2 := cellAt hz 2 (v := .int .i64 0) rfl
              have z3 := cellAt hz 3 (v := .string ⟨#[]⟩) rfl
              have z4 := cellAt hz 4 (v := .bool false) rfl
              have z5 := frozenAt hz 0
              have z6 := frozenAt hz 1
              have z7 := frozenAt hz 2
              have z8 := frozenAt hz 3
              have z9 := frozenAt hz 4
              go_simp
              clear hz z0 z1 z2 z3 z4 z5 z6 z7 z8 z9
              clear hH
              have T20 : Sep w ([excB _ ⟨#[]⟩, refB _ 5, refB _ 3] ++ baseE) _ := (Sep.setBox (cs := #[.string ⟨#[]⟩, .int .i64 0, .int .i64 0, .string ⟨#[]⟩, .bool false]) (t := 45) (Sep.setBox (cs := #[.string ⟨#[]⟩, .int .i64 0, .int .i64 0, .string ⟨#[]⟩, .bool false]) (t := 45) (Sep.setBox (cs := #[.string ⟨#[]⟩, .int .i64 0, .int .i64 0, .string ⟨#[]⟩, .bool false]) (t := 45) (Sep.setBox (cs := #[.string ⟨#[]⟩, .int .i64 0, .int .i64 0, .string ⟨#[]⟩, .bool false]) (t := 45) (Sep.setBox (cs := #[.string ⟨#[]⟩, .int .i64 0, .int .i64 0, .string ⟨#[]⟩, .bool false]) (t := 45) T19 0 rfl 0 (.string ⟨#[]⟩)) 0 rfl 1 (.int .i64 0)) 0 rfl 2 (.int .i64 0)) 0 rfl 3 (.string ⟨#[]⟩)) 0 rfl 4 (.bool false))
              try simp only [size_drew, World.size_alloc] at T20
              refine hK.out _ _ (KbaseE.out _ [_, _, _] T20) (fun hH => ?_)
              clear hK K
              refine wpAnyH_done (by kernel_rfl) ?_ _
              as_aux_lemma =>
                go_wp2_with fail
                go_meet
                exact ⟨[_, _, _], 0, 1, _, _, rfl, rfl, by decide, rfl, rfl, T20⟩
          · go_simp
            have T21 : Sep w ([excB _ ⟨#[]⟩, refB _ 3] ++ baseD) _ := Sep.alloc T2 (.cells #[.string ⟨#[]⟩, .int .i64 0, .int .i64 0, .string ⟨#[]⟩, .bool false] 45)
            try simp only [size_drew, World.size_alloc] at T21
            clear hH
            refine hK.out _ _ (KbaseD.out _ [_, _] T21) (fun hH => ?_)
            clear hK K
            refine readyT [5, 9] ?_
            refine consT (fun K hK => ?_) (consT (fun K hK => ?_) AllReadyH.nil)
            · go_simp
              go_wp2_with (go_at_call 28; refine (KC.out _ [_, _] _ 1 rfl T21).mono ?_; rintro e w22 ⟨rfl, T22⟩)
              clear hH
              refine hK.out _ _ (KbaseE.out _ [_, _] T22) (fun hH => ?_)
              clear hK K
              refine takeT 6 hH (hy := .inl ⟨by rfl, by (intro w hSw; try obtain ⟨u0, u1, u2⟩ := hSw); (go_simp; try rfl)⟩) (h := ?_)
              simp only [Act.put, List.setIfInBounds_toArray, List.set_cons_zero, List.set_cons_succ]
              refine takeT 7 hH (hy := .inl ⟨by rfl, by (intro w hSw; try obtain ⟨u0, u1, u2⟩ := hSw); (go_simp; try rfl)⟩) (h := ?_)
              simp only [Act.put, List.setIfInBounds_toArray, List.set_cons_zero, List.set_cons_succ]
              refine takeT 8 hH (hy := .inl ⟨by rfl, by (intro w hSw; try obtain ⟨u0, u1, u2⟩ := hSw); (go_simp; try rfl)⟩) (h := ?_)
              simp only [Act.put, List.setIfInBounds_toArray, List.set_cons_zero, List.set_cons_succ]
              refine readyT [9] ?_
              refine consT (fun K hK => ?_) AllReadyH.nil
              go_simp
              have T23 : Sep w ([zeroB _, excB _ ⟨#[]⟩, refB _ 3] ++ baseE) _ := Sep.alloc T22 (.cells #[.int .i64 0, .int .i64 0, .string ⟨#[]⟩] 33)
              try simp only [size_drew, World.size_alloc] at T23
              clear hH
              refine hK.out _ _ (KbaseE.out _ [_, _, _] T23) (fun hH => ?_)
              clear hK K
              refine readyT [11] ?_
              refine consT (fun K hK => ?_) AllReadyH.nil
              have hz := T23.box 0 rfl
              have z0 := cellAt hz 0 (v := .int .i64 0) rfl
              have z1 := cellAt hz 1 (v := .int .i64 0) rfl
              have z2 := cellAt hz 2 (v := .string ⟨#[]⟩) rfl
              have z3 := frozenAt hz 0
              have z4 := frozenAt hz 1
              have z5 := frozenAt hz 2
              go_simp
              clear hz z0 z1 z2 z3 z4 z5
              clear hH
              have T24 : Sep w ([refB _ 5, excB _ ⟨#[]⟩, refB _ 3] ++ baseE) _ := (Sep.alloc T22 (.cells #[.int .i64 4, .int .i64 5, .string ⟨#[]⟩] 33))
              try simp only [size_drew, World.size_alloc] at T24
              refine hK.out _ _ (KbaseE.out _ [_, _, _] T24) (fun hH => ?_)
              clear hK K
              refine readyT [12] ?_
              refine consT (fun K hK => ?_) AllReadyH.nil
              have hz := T24.box 1 rfl
              have z0 := cellAt hz 0 (v := .string ⟨#[]⟩) rfl
              have z1 := cellAt hz 1 (v := .int .i64 0) rfl
              have z2 := cellAt hz 2 (v := .int .i64 0) rfl
              have z3 := cellAt hz 3 (v := .string ⟨#[]⟩) rfl
              have z4 := cellAt hz 4 (v := .bool false) rfl
              have z5 := frozenAt hz 0
              have z6 := frozenAt hz 1
              have z7 := frozenAt hz 2
              have z8 := frozenAt hz 3
              have z9 := frozenAt hz 4
              go_simp
              clear hz z0 z1 z2 z3 z4 z5 z6 z7 z8 z9
              clear hH
              have T25 : Sep w ([refB _ 5, excB _ ⟨#[]⟩, refB _ 3] ++ baseE) _ := (Sep.setBox (cs := #[.string ⟨#[]⟩, .int .i64 0, .int .i64 0, .string ⟨#[]⟩, .bool false]) (t := 45) (Sep.setBox (cs := #[.string ⟨#[]⟩, .int .i64 0, .int .i64 0, .string ⟨#[]⟩, .bool false]) (t := 45) (Sep.setBox (cs := #[.string ⟨#[]⟩, .int .i64 0, .int .i64 0, .string ⟨#[]⟩, .bool false]) (t := 45) (Sep.setBox (cs := #[.string ⟨#[]⟩, .int .i64 0, .int .i64 0, .string ⟨#[]⟩, .bool false]) (t := 45) (Sep.setBox (cs := #[.string ⟨#[]⟩, .int .i64 0, .int .i64 0, .string ⟨#[]⟩, .bool false]) (t := 45) T24 1 rfl 0 (.string ⟨#[]⟩)) 1 rfl 1 (.int .i64 0)) 1 rfl 2 (.int .i64 0)) 1 rfl 3 (.string ⟨#[]⟩)) 1 rfl 4 (.bool false))
              try simp only [size_drew, World.size_alloc] at T25
              refine hK.out _ _ (KbaseE.out _ [_, _, _] T25) (fun hH => ?_)
              clear hK K
              refine wpAnyH_done (by kernel_rfl) ?_ _
              as_aux_lemma =>
                go_wp2_with fail
                go_meet
                exact ⟨[_, _, _], 1, 0, _, _, rfl, rfl, by decide, rfl, rfl, T25⟩
            · go_simp
              have T26 : Sep w ([zeroB _, excB _ ⟨#[]⟩, refB _ 3] ++ baseD) _ := Sep.alloc T21 (.cells #[.int .i64 0, .int .i64 0, .string ⟨#[]⟩] 33)
              try simp only [size_drew, World.size_alloc] at T26
              clear hH
              refine hK.out _ _ (KbaseD.out _ [_, _, _] T26) (fun hH => ?_)
              clear hK K
              refine readyT [5] ?_
              refine consT (fun K hK => ?_) AllReadyH.nil
              go_simp
              go_wp2_with (go_at_call 28; refine (KC.out _ [_, _, _] _ 2 rfl T26).mono ?_; rintro e w27 ⟨rfl, T27⟩)
              clear hH
              refine hK.out _ _ (KbaseE.out _ [_, _, _] T27) (fun hH => ?_)
              clear hK K
              refine takeT 6 hH (hy := .inl ⟨by rfl, by (intro w hSw; try obtain ⟨u0, u1, u2⟩ := hSw); (go_simp; try rfl)⟩) (h := ?_)
              simp only [Act.put, List.setIfInBounds_toArray, List.set_cons_zero, List.set_cons_succ]
              refine takeT 7 hH (hy := .inl ⟨by rfl, by (intro w hSw; try obtain ⟨u0, u1, u2⟩ := hSw); (go_simp; try rfl)⟩) (h := ?_)
              simp only [Act.put, List.setIfInBounds_toArray, List.set_cons_zero, List.set_cons_succ]
              refine takeT 8 hH (hy := .inl ⟨by rfl, by (intro w hSw; try obtain ⟨u0, u1, u2⟩ := hSw); (go_simp; try rfl)⟩) (h := ?_)
              simp only [Act.put, List.setIfInBounds_toArray, List.set_cons_zero, List.set_cons_succ]
              refine readyT [11] ?_
              refine consT (fun K hK => ?_) AllReadyH.nil
              have hz := T27.box 0 rfl
              have z0 := cellAt hz 0 (v := .int .i64 0) rfl
              have z1 := cellAt hz 1 (v := .int .i64 0) rfl
              have z2 := cellAt hz 2 (v := .string ⟨#[]⟩) rfl
              have z3 := frozenAt hz 0
              have z4 := frozenAt hz 1
              have z5 := frozenAt hz 2
              go_simp
              clear hz z0 z1 z2 z3 z4 z5
              clear hH
              have T28 : Sep w ([refB _ 5, excB _ ⟨#[]⟩, refB _ 3] ++ baseE) _ := (Sep.setBox (cs := #[.int .i64 4, .int .i64 5, .string ⟨#[]⟩]) (t := 33) (Sep.setBox (cs := #[.int .i64 4, .int .i64 0, .string ⟨#[]⟩]) (t := 33) (Sep.setBox (cs := #[.int .i64 0, .int .i64 0, .string ⟨#[]⟩]) (t := 33) T27 0 rfl 0 (.int .i64 4)) 0 rfl 1 (.int .i64 5)) 0 rfl 2 (.string ⟨#[]⟩))
              try simp only [size_drew, World.size_alloc] at T28
              refine hK.out _ _ (KbaseE.out _ [_, _, _] T28) (fun hH => ?_)
              clear hK K
              refine readyT [12] ?_
              refine consT (fun K hK => ?_) AllReadyH.nil
              have hz := T28.box 1 rfl
              have z0 := cellAt hz 0 (v := .string ⟨#[]⟩) rfl
              have z1 := cellAt hz 1 (v := .int .i64 0) rfl
              have z2 := cellAt hz 2 (v := .int .i64 0) rfl
              have z3 := cellAt hz 3 (v := .string ⟨#[]⟩) rfl
              have z4 := cellAt hz 4 (v := .bool false) rfl
              have z5 := frozenAt hz 0
              have z6 := frozenAt hz 1
              have z7 := frozenAt hz 2
              have z8 := frozenAt hz 3
              have z9 := frozenAt hz 4
              go_simp
              clear hz z0 z1 z2 z3 z4 z5 z6 z7 z8 z9
              clear hH
              have T29 : Sep w ([refB _ 5, excB _ ⟨#[]⟩, refB _ 3] ++ baseE) _ := (Sep.setBox (cs := #[.string ⟨#[]⟩, .int .i64 0, .int .i64 0, .string ⟨#[]⟩, .bool false]) (t := 45) (Sep.setBox (cs := #[.string ⟨#[]⟩, .int .i64 0, .int .i64 0, .string ⟨#[]⟩, .bool false]) (t := 45) (Sep.setBox (cs := #[.string ⟨#[]⟩, .int .i64 0, .int .i64 0, .string ⟨#[]⟩, .bool false]) (t := 45) (Sep.setBox (cs := #[.string ⟨#[]⟩, .int .i64 0, .int .i64 0, .string ⟨#[]⟩, .bool false]) (t := 45) (Sep.setBox (cs := #[.string ⟨#[]⟩, .int .i64 0, .int .i64 0, .string ⟨#[]⟩, .bool false]) (t := 45) T28 1 rfl 0 (.string ⟨#[]⟩)) 1 rfl 1 (.int .i64 0)) 1 rfl 2 (.int .i64 0)) 1 rfl 3 (.string ⟨#[]⟩)) 1 rfl 4 (.bool false))
              try simp only [size_drew, World.size_alloc] at T29
              refine hK.out _ _ (KbaseE.out _ [_, _, _] T29) (fun hH => ?_)
              clear hK K
              refine wpAnyH_done (by kernel_rfl) ?_ _
              as_aux_lemma =>
                go_wp2_with fail
                go_meet
                exact ⟨[_, _, _], 1, 0, _, _, rfl, rfl, by decide, rfl, rfl, T29⟩
        · go_simp
          have T30 : Sep w ([zeroB _, refB _ 3] ++ baseC) _ := Sep.alloc T1 (.cells #[.int .i64 0, .int .i64 0, .string ⟨#[]⟩] 33)
          try simp only [size_drew, World.size_alloc] at T30
          clear hH
          refine hK.out _ _ (KbaseC.out _ [_, _] T30) (fun hH => ?_)
          clear hK K
          refine readyT [4, 10] ?_
          refine consT (fun K hK => ?_) (consT (fun K hK => ?_) AllReadyH.nil)
          · go_simp
            go_wp2_with (go_at_call 19; refine (KM.out _ [_, _] T30).mono ?_; rintro e w31 ⟨rfl, T31⟩)
            clear hH
            refine hK.out _ _ (KbaseD.out _ [_, _] T31) (fun hH => ?_)
            clear hK K
            refine readyT [5, 10] ?_
            refine consT (fun K hK => ?_) (consT (fun K hK => ?_) AllReadyH.nil)
            · go_simp
              go_wp2_with (go_at_call 28; refine (KC.out _ [_, _] _ 1 rfl T31).mono ?_; rintro e w32 ⟨rfl, T32⟩)
              clear hH
              refine hK.out _ _ (KbaseE.out _ [_, _] T32) (fun hH => ?_)
              clear hK K
              refine takeT 6 hH (hy := .inl ⟨by rfl, by (intro w hSw; try obtain ⟨u0, u1, u2⟩ := hSw); (go_simp; try rfl)⟩) (h := ?_)
              simp only [Act.put, List.setIfInBounds_toArray, List.set_cons_zero, List.set_cons_succ]
              refine takeT 7 hH (hy := .inl ⟨by rfl, by (intro w hSw; try obtain ⟨u0, u1, u2⟩ := hSw); (go_simp; try rfl)⟩) (h := ?_)
              simp only [Act.put, List.setIfInBounds_toArray, List.set_cons_zero, List.set_cons_succ]
              refine takeT 8 hH (hy := .inl ⟨by rfl, by (intro w hSw; try obtain ⟨u0, u1, u2⟩ := hSw); (go_simp; try rfl)⟩) (h := ?_)
              simp only [Act.put, List.setIfInBounds_toArray, List.set_cons_zero, List.set_cons_succ]
              refine readyT [10] ?_
              refine consT (fun K hK => ?_) AllReadyH.nil
              go_simp
              have T33 : Sep w ([excB _ ⟨#[]⟩, zeroB _, refB _ 3] ++ baseE) _ := Sep.alloc T32 (.cells #[.string ⟨#[]⟩, .int .i64 0, .int .i64 0, .string ⟨#[]⟩, .bool false] 45)
              try simp only [size_drew, World.size_alloc] at T33
              clear hH
              refine hK.out _ _ (KbaseE.out _ [_, _, _] T33) (fun hH => ?_)
              clear hK K
              refine readyT [11] ?_
              refine consT (fun K hK => ?_) AllReadyH.nil
              have hz := T33.box 1 rfl
              have z0 := cellAt hz 0 (v := .int .i64 0) rfl
              have z1 := cellAt hz 1 (v := .int .i64 0) rfl
              have z2 := cellAt hz 2 (v := .string ⟨#[]⟩) rfl
              have z3 := frozenAt hz 0
              have z4 := frozenAt hz 1
              have z5 := frozenAt hz 2
              go_simp
              clear hz z0 z1 z2 z3 z4 z5
              clear hH
              have T34 : Sep w ([excB _ ⟨#[]⟩, refB _ 5, refB _ 3] ++ baseE) _ := (Sep.setBox (cs := #[.int .i64 4, .int .i64 5, .string ⟨#[]⟩]) (t := 33) (Sep.setBox (cs := #[.int .i64 4, .int .i64 0, .string ⟨#[]⟩]) (t := 33) (Sep.setBox (cs := #[.int .i64 0, .int .i64 0, .string ⟨#[]⟩]) (t := 33) T33 1 rfl 0 (.int .i64 4)) 1 rfl 1 (.int .i64 5)) 1 rfl 2 (.string ⟨#[]⟩))
              try simp only [size_drew, World.size_alloc] at T34
              refine hK.out _ _ (KbaseE.out _ [_, _, _] T34) (fun hH => ?_)
              clear hK K
              refine readyT [12] ?_
              refine consT (fun K hK => ?_) AllReadyH.nil
              have hz := T34.box 0 rfl
              have z0 := cellAt hz 0 (v := .string ⟨#[]⟩) rfl
              have z1 := cellAt hz 1 (v := .int .i64 0) rfl
              have z2 := cellAt hz 2 (v := .int .i64 0) rfl
              have z3 := cellAt hz 3 (v := .string ⟨#[]⟩) rfl
              have z4 := cellAt hz 4 (v := .bool false) rfl
              have z5 := frozenAt hz 0
              have z6 := frozenAt hz 1
              have z7 := frozenAt hz 2
              have z8 := frozenAt hz 3
              have z9 := frozenAt hz 4
              go_simp
              clear hz z0 z1 z2 z3 z4 z5 z6 z7 z8 z9
              clear hH
              have T35 : Sep w ([excB _ ⟨#[]⟩, refB _ 5, refB _ 3] ++ baseE) _ := (Sep.setBox (cs := #[.string ⟨#[]⟩, .int .i64 0, .int .i64 0, .string ⟨#[]⟩, .bool false]) (t := 45) (Sep.setBox (cs := #[.string ⟨#[]⟩, .int .i64 0, .int .i64 0, .string ⟨#[]⟩, .bool false]) (t := 45) (Sep.setBox (cs := #[.string ⟨#[]⟩, .int .i64 0, .int .i64 0, .string ⟨#[]⟩, .bool false]) (t := 45) (Sep.setBox (cs := #[.string ⟨#[]⟩, .int .i64 0, .int .i64 0, .string ⟨#[]⟩, .bool false]) (t := 45) (Sep.setBox (cs := #[.string ⟨#[]⟩, .int .i64 0, .int .i64 0, .string ⟨#[]⟩, .bool false]) (t := 45) T34 0 rfl 0 (.string ⟨#[]⟩)) 0 rfl 1 (.int .i64 0)) 0 rfl 2 (.int .i64 0)) 0 rfl 3 (.string ⟨#[]⟩)) 0 rfl 4 (.bool false))
              try simp only [size_drew, World.size_alloc] at T35
              refine hK.out _ _ (KbaseE.out _ [_, _, _] T35) (fun hH => ?_)
              clear hK K
              refine wpAnyH_done (by kernel_rfl) ?_ _
              as_aux_lemma =>
                go_wp2_with fail
                go_meet
                exact ⟨[_, _, _], 0, 1, _, _, rfl, rfl, by decide, rfl, rfl, T35⟩
            · go_simp
              have T36 : Sep w ([excB _ ⟨#[]⟩, zeroB _, refB _ 3] ++ baseD) _ := Sep.alloc T31 (.cells #[.string ⟨#[]⟩, .int .i64 0, .int .i64 0, .string ⟨#[]⟩, .bool false] 45)
              try simp only [size_drew, World.size_alloc] at T36
              clear hH
              refine hK.out _ _ (KbaseD.out _ [_, _, _] T36) (fun hH => ?_)
              clear hK K
              refine readyT [5] ?_
              refine consT (fun K hK => ?_) AllReadyH.nil
              go_simp
              go_wp2_with (go_at_call 28; refine (KC.out _ [_, _, _] _ 2 rfl T36).mono ?_; rintro e w37 ⟨rfl, T37⟩)
              clear hH
              refine hK.out _ _ (KbaseE.out _ [_, _, _] T37) (fun hH => ?_)
              clear hK K
              refine takeT 6 hH (hy := .inl ⟨by rfl, by (intro w hSw; try obtain ⟨u0, u1, u2⟩ := hSw); (go_simp; try rfl)⟩) (h := ?_)
              simp only [Act.put, List.setIfInBounds_toArray, List.set_cons_zero, List.set_cons_succ]
              refine takeT 7 hH (hy := .inl ⟨by rfl, by (intro w hSw; try obtain ⟨u0, u1, u2⟩ := hSw); (go_simp; try rfl)⟩) (h := ?_)
              simp only [Act.put, List.setIfInBounds_toArray, List.set_cons_zero, List.set_cons_succ]
              refine takeT 8 hH (hy := .inl ⟨by rfl, by (intro w hSw; try obtain ⟨u0, u1, u2⟩ := hSw); (go_simp; try rfl)⟩) (h := ?_)
              simp only [Act.put, List.setIfInBounds_toArray, List.set_cons_zero, List.set_cons_succ]
              refine readyT [11] ?_
              refine consT (fun K hK => ?_) AllReadyH.nil
              have hz := T37.box 1 rfl
              have z0 := cellAt hz 0 (v := .int .i64 0) rfl
              have z1 := cellAt hz 1 (v := .int .i64 0) rfl
              have z2 := cellAt hz 2 (v := .string ⟨#[]⟩) rfl
              have z3 := frozenAt hz 0
              have z4 := frozenAt hz 1
              have z5 := frozenAt hz 2
              go_simp
              clear hz z0 z1 z2 z3 z4 z5
              clear hH
              have T38 : Sep w ([excB _ ⟨#[]⟩, refB _ 5, refB _ 3] ++ baseE) _ := (Sep.setBox (cs := #[.int .i64 4, .int .i64 5, .string ⟨#[]⟩]) (t := 33) (Sep.setBox (cs := #[.int .i64 4, .int .i64 0, .string ⟨#[]⟩]) (t := 33) (Sep.setBox (cs := #[.int .i64 0, .int .i64 0, .string ⟨#[]⟩]) (t := 33) T37 1 rfl 0 (.int .i64 4)) 1 rfl 1 (.int .i64 5)) 1 rfl 2 (.string ⟨#[]⟩))
              try simp only [size_drew, World.size_alloc] at T38
              refine hK.out _ _ (KbaseE.out _ [_, _, _] T38) (fun hH => ?_)
              clear hK K
              refine readyT [12] ?_
              refine consT (fun K hK => ?_) AllReadyH.nil
              have hz := T38.box 0 rfl
              have z0 := cellAt hz 0 (v := .string ⟨#[]⟩) rfl
              have z1 := cellAt hz 1 (v := .int .i64 0) rfl
              have z2 := cellAt hz 2 (v := .int .i64 0) rfl
              have z3 := cellAt hz 3 (v := .string ⟨#[]⟩) rfl
              have z4 := cellAt hz 4 (v := .bool false) rfl
              have z5 := frozenAt hz 0
              have z6 := frozenAt hz 1
              have z7 := frozenAt hz 2
              have z8 := frozenAt hz 3
              have z9 := frozenAt hz 4
              go_simp
              clear hz z0 z1 z2 z3 z4 z5 z6 z7 z8 z9
              clear hH
              have T39 : Sep w ([excB _ ⟨#[]⟩, refB _ 5, refB _ 3] ++ baseE) _ := (Sep.setBox (cs := #[.string ⟨#[]⟩, .int .i64 0, .int .i64 0, .string ⟨#[]⟩, .bool false]) (t := 45) (Sep.setBox (cs := #[.string ⟨#[]⟩, .int .i64 0, .int .i64 0, .string ⟨#[]⟩, .bool false]) (t := 45) (Sep.setBox (cs := #[.string ⟨#[]⟩, .int .i64 0, .int .i64 0, .string ⟨#[]⟩, .bool false]) (t := 45) (Sep.setBox (cs := #[.string ⟨#[]⟩, .int .i64 0, .int .i64 0, .string ⟨#[]⟩, .bool false]) (t := 45) (Sep.setBox (cs := #[.string ⟨#[]⟩, .int .i64 0, .int .i64 0, .string ⟨#[]⟩, .bool false]) (t := 45) T38 0 rfl 0 (.string ⟨#[]⟩)) 0 rfl 1 (.int .i64 0)) 0 rfl 2 (.int .i64 0)) 0 rfl 3 (.string ⟨#[]⟩)) 0 rfl 4 (.bool false))
              try simp only [size_drew, World.size_alloc] at T39
              refine hK.out _ _ (KbaseE.out _ [_, _, _] T39) (fun hH => ?_)
              clear hK K
              refine wpAnyH_done (by kernel_rfl) ?_ _
              as_aux_lemma =>
                go_wp2_with fail
                go_meet
                exact ⟨[_, _, _], 0, 1, _, _, rfl, rfl, by decide, rfl, rfl, T39⟩
          · go_simp
            have T40 : Sep w ([excB _ ⟨#[]⟩, zeroB _, refB _ 3] ++ baseC) _ := Sep.alloc T30 (.cells #[.string ⟨#[]⟩, .int .i64 0, .int .i64 0, .string ⟨#[]⟩, .bool false] 45)
            try simp only [size_drew, World.size_alloc] at T40
            clear hH
            refine hK.out _ _ (KbaseC.out _ [_, _, _] T40) (fun hH => ?_)
            clear hK K
            refine readyT [4] ?_
            refine consT (fun K hK => ?_) AllReadyH.nil
            go_simp
            go_wp2_with (go_at_call 19; refine (KM.out _ [_, _, _] T40).mono ?_; rintro e w41 ⟨rfl, T41⟩)
            clear hH
            refine hK.out _ _ (KbaseD.out _ [_, _, _] T41) (fun hH => ?_)
            clear hK K
            refine readyT [5] ?_
            refine consT (fun K hK => ?_) AllReadyH.nil
            go_simp
            go_wp2_with (go_at_call 28; refine (KC.out _ [_, _, _] _ 2 rfl T41).mono ?_; rintro e w42 ⟨rfl, T42⟩)
            clear hH
            refine hK.out _ _ (KbaseE.out _ [_, _, _] T42) (fun hH => ?_)
            clear hK K
            refine takeT 6 hH (hy := .inl ⟨by rfl, by (intro w hSw; try obtain ⟨u0, u1, u2⟩ := hSw); (go_simp; try rfl)⟩) (h := ?_)
            simp only [Act.put, List.setIfInBounds_toArray, List.set_cons_zero, List.set_cons_succ]
            refine takeT 7 hH (hy := .inl ⟨by rfl, by (intro w hSw; try obtain ⟨u0, u1, u2⟩ := hSw); (go_simp; try rfl)⟩) (h := ?_)
            simp only [Act.put, List.setIfInBounds_toArray, List.set_cons_zero, List.set_cons_succ]
            refine takeT 8 hH (hy := .inl ⟨by rfl, by (intro w hSw; try obtain ⟨u0, u1, u2⟩ := hSw); (go_simp; try rfl)⟩) (h := ?_)
            simp only [Act.put, List.setIfInBounds_toArray, List.set_cons_zero, List.set_cons_succ]
            refine readyT [11] ?_
            refine consT (fun K hK => ?_) AllReadyH.nil
            have hz := T42.box 1 rfl
            have z0 := cellAt hz 0 (v := .int .i64 0) rfl
            have z1 := cellAt hz 1 (v := .int .i64 0) rfl
            have z2 := cellAt hz 2 (v := .string ⟨#[]⟩) rfl
            have z3 := frozenAt hz 0
            have z4 := frozenAt hz 1
            have z5 := frozenAt hz 2
            go_simp
            clear hz z0 z1 z2 z3 z4 z5
            clear hH
            have T43 : Sep w ([excB _ ⟨#[]⟩, refB _ 5, refB _ 3] ++ baseE) _ := (Sep.setBox (cs := #[.int .i64 4, .int .i64 5, .string ⟨#[]⟩]) (t := 33) (Sep.setBox (cs := #[.int .i64 4, .int .i64 0, .string ⟨#[]⟩]) (t := 33) (Sep.setBox (cs := #[.int .i64 0, .int .i64 0, .string ⟨#[]⟩]) (t := 33) T42 1 rfl 0 (.int .i64 4)) 1 rfl 1 (.int .i64 5)) 1 rfl 2 (.string ⟨#[]⟩))
            try simp only [size_drew, World.size_alloc] at T43
            refine hK.out _ _ (KbaseE.out _ [_, _, _] T43) (fun hH => ?_)
            clear hK K
            refine readyT [12] ?_
            refine consT (fun K hK => ?_) AllReadyH.nil
            have hz := T43.box 0 rfl
            have z0 := cellAt hz 0 (v := .string ⟨#[]⟩) rfl
            have z1 := cellAt hz 1 (v := .int .i64 0) rfl
            have z2 := cellAt hz 2 (v := .int .i64 0) rfl
            have z3 := cellAt hz 3 (v := .string ⟨#[]⟩) rfl
            have z4 := cellAt hz 4 (v := .bool false) rfl
            have z5 := frozenAt hz 0
            have z6 := frozenAt hz 1
            have z7 := frozenAt hz 2
            have z8 := frozenAt hz 3
            have z9 := frozenAt hz 4
            go_simp
            clear hz z0 z1 z2 z3 z4 z5 z6 z7 z8 z9
            clear hH
            have T44 : Sep w ([excB _ ⟨#[]⟩, refB _ 5, refB _ 3] ++ baseE) _ := (Sep.setBox (cs := #[.string ⟨#[]⟩, .int .i64 0, .int .i64 0, .string ⟨#[]⟩, .bool false]) (t := 45) (Sep.setBox (cs := #[.string ⟨#[]⟩, .int .i64 0, .int .i64 0, .string ⟨#[]⟩, .bool false]) (t := 45) (Sep.setBox (cs := #[.string ⟨#[]⟩, .int .i64 0, .int .i64 0, .string ⟨#[]⟩, .bool false]) (t := 45) (Sep.setBox (cs := #[.string ⟨#[]⟩, .int .i64 0, .int .i64 0, .string ⟨#[]⟩, .bool false]) (t := 45) (Sep.setBox (cs := #[.string ⟨#[]⟩, .int .i64 0, .int .i64 0, .string ⟨#[]⟩, .bool false]) (t := 45) T43 0 rfl 0 (.string ⟨#[]⟩)) 0 rfl 1 (.int .i64 0)) 0 rfl 2 (.int .i64 0)) 0 rfl 3 (.string ⟨#[]⟩)) 0 rfl 4 (.bool false))
            try simp only [size_drew, World.size_alloc] at T44
            refine hK.out _ _ (KbaseE.out _ [_, _, _] T44) (fun hH => ?_)
            clear hK K
            refine wpAnyH_done (by kernel_rfl) ?_ _
            as_aux_lemma =>
              go_wp2_with fail
              go_meet
              exact ⟨[_, _, _], 0, 1, _, _, rfl, rfl, by decide, rfl, rfl, T44⟩
        · go_simp
          have T45 : Sep w ([excB _ ⟨#[]⟩, refB _ 3] ++ baseC) _ := Sep.alloc T1 (.cells #[.string ⟨#[]⟩, .int .i64 0, .int .i64 0, .string ⟨#[]⟩, .bool false] 45)
          try simp only [size_drew, World.size_alloc] at T45
          clear hH
          refine hK.out _ _ (KbaseC.out _ [_, _] T45) (fun hH => ?_)
          clear hK K
          refine readyT [4, 9] ?_
          refine consT (fun K hK => ?_) (consT (fun K hK => ?_) AllReadyH.nil)
          · go_simp
            go_wp2_with (go_at_call 19; refine (KM.out _ [_, _] T45).mono ?_; rintro e w46 ⟨rfl, T46⟩)
            clear hH
            refine hK.out _ _ (KbaseD.out _ [_, _] T46) (fun hH => ?_)
            clear hK K
            refine readyT [5, 9] ?_
            refine consT (fun K hK => ?_) (consT (fun K hK => ?_) AllReadyH.nil)
            · go_simp
              go_wp2_with (go_at_call 28; refine (KC.out _ [_, _] _ 1 rfl T46).mono ?_; rintro e w47 ⟨rfl, T47⟩)
              clear hH
              refine hK.out _ _ (KbaseE.out _ [_, _] T47) (fun hH => ?_)
              clear hK K
              refine takeT 6 hH (hy := .inl ⟨by rfl, by (intro w hSw; try obtain ⟨u0, u1, u2⟩ := hSw); (go_simp; try rfl)⟩) (h := ?_)
              simp only [Act.put, List.setIfInBounds_toArray, List.set_cons_zero, List.set_cons_succ]
              refine takeT 7 hH (hy := .inl ⟨by rfl, by (intro w hSw; try obtain ⟨u0, u1, u2⟩ := hSw); (go_simp; try rfl)⟩) (h := ?_)
              simp only [Act.put, List.setIfInBounds_toArray, List.set_cons_zero, List.set_cons_succ]
              refine takeT 8 hH (hy := .inl ⟨by rfl, by (intro w hSw; try obtain ⟨u0, u1, u2⟩ := hSw); (go_simp; try rfl)⟩) (h := ?_)
              simp only [Act.put, List.setIfInBounds_toArray, List.set_cons_zero, List.set_cons_succ]
              refine readyT [9] ?_
              refine consT (fun K hK => ?_) AllReadyH.nil
              go_simp
              have T48 : Sep w ([zeroB _, excB _ ⟨#[]⟩, refB _ 3] ++ baseE) _ := Sep.alloc T47 (.cells #[.int .i64 0, .int .i64 0, .string ⟨#[]⟩] 33)
              try simp only [size_drew, World.size_alloc] at T48
              clear hH
              refine hK.out _ _ (KbaseE.out _ [_, _, _] T48) (fun hH => ?_)
              clear hK K
              refine readyT [11] ?_
              refine consT (fun K hK => ?_) AllReadyH.nil
              have hz := T48.box 0 rfl
              have z0 := cellAt hz 0 (v := .int .i64 0) rfl
              have z1 := cellAt hz 1 (v := .int .i64 0) rfl
              have z2 := cellAt hz 2 (v := .string ⟨#[]⟩) rfl
              have z3 := frozenAt hz 0
              have z4 := frozenAt hz 1
              have z5 := frozenAt hz 2
              go_simp
              clear hz z0 z1 z2 z3 z4 z5
              clear hH
              have T49 : Sep w ([refB _ 5, excB _ ⟨#[]⟩, refB _ 3] ++ baseE) _ := (Sep.alloc T47 (.cells #[.int .i64 4, .int .i64 5, .string ⟨#[]⟩] 33))
              try simp only [size_drew, World.size_alloc] at T49
              refine hK.out _ _ (KbaseE.out _ [_, _, _] T49) (fun hH => ?_)
              clear hK K
              refine readyT [12] ?_
              refine consT (fun K hK => ?_) AllReadyH.nil
              have hz := T49.box 1 rfl
              have z0 := cellAt hz 0 (v := .string ⟨#[]⟩) rfl
              have z1 := cellAt hz 1 (v := .int .i64 0) rfl
              have z2 := cellAt hz 2 (v := .int .i64 0) rfl
              have z3 := cellAt hz 3 (v := .string ⟨#[]⟩) rfl
              have z4 := cellAt hz 4 (v := .bool false) rfl
              have z5 := frozenAt hz 0
              have z6 := frozenAt hz 1
              have z7 := frozenAt hz 2
              have z8 := frozenAt hz 3
              have z9 := frozenAt hz 4
              go_simp
              clear hz z0 z1 z2 z3 z4 z5 z6 z7 z8 z9
              clear hH
              have T50 : Sep w ([refB _ 5, excB _ ⟨#[]⟩, refB _ 3] ++ baseE) _ := (Sep.setBox (cs := #[.string ⟨#[]⟩, .int .i64 0, .int .i64 0, .string ⟨#[]⟩, .bool false]) (t := 45) (Sep.setBox (cs := #[.string ⟨#[]⟩, .int .i64 0, .int .i64 0, .string ⟨#[]⟩, .bool false]) (t := 45) (Sep.setBox (cs := #[.string ⟨#[]⟩, .int .i64 0, .int .i64 0, .string ⟨#[]⟩, .bool false]) (t := 45) (Sep.setBox (cs := #[.string ⟨#[]⟩, .int .i64 0, .int .i64 0, .string ⟨#[]⟩, .bool false]) (t := 45) (Sep.setBox (cs := #[.string ⟨#[]⟩, .int .i64 0, .int .i64 0, .string ⟨#[]⟩, .bool false]) (t := 45) T49 1 rfl 0 (.string ⟨#[]⟩)) 1 rfl 1 (.int .i64 0)) 1 rfl 2 (.int .i64 0)) 1 rfl 3 (.string ⟨#[]⟩)) 1 rfl 4 (.bool false))
              try simp only [size_drew, World.size_alloc] at T50
              refine hK.out _ _ (KbaseE.out _ [_, _, _] T50) (fun hH => ?_)
              clear hK K
              refine wpAnyH_done (by kernel_rfl) ?_ _
              as_aux_lemma =>
                go_wp2_with fail
                go_meet
                exact ⟨[_, _, _], 1, 0, _, _, rfl, rfl, by decide, rfl, rfl, T50⟩
            · go_simp
              have T51 : Sep w ([zeroB _, excB _ ⟨#[]⟩, refB _ 3] ++ baseD) _ := Sep.alloc T46 (.cells #[.int .i64 0, .int .i64 0, .string ⟨#[]⟩] 33)
              try simp only [size_drew, World.size_alloc] at T51
              clear hH
              refine hK.out _ _ (KbaseD.out _ [_, _, _] T51) (fun hH => ?_)
              clear hK K
              refine readyT [5] ?_
              refine consT (fun K hK => ?_) AllReadyH.nil
              go_simp
              go_wp2_with (go_at_call 28; refine (KC.out _ [_, _, _] _ 2 rfl T51).mono ?_; rintro e w52 ⟨rfl, T52⟩)
              clear hH
              refine hK.out _ _ (KbaseE.out _ [_, _, _] T52) (fun hH => ?_)
              clear hK K
              refine takeT 6 hH (hy := .inl ⟨by rfl, by (intro w hSw; try obtain ⟨u0, u1, u2⟩ := hSw); (go_simp; try rfl)⟩) (h := ?_)
              simp only [Act.put, List.setIfInBounds_toArray, List.set_cons_zero, List.set_cons_succ]
              refine takeT 7 hH (hy := .inl ⟨by rfl, by (intro w hSw; try obtain ⟨u0, u1, u2⟩ := hSw); (go_simp; try rfl)⟩) (h := ?_)
              simp only [Act.put, List.setIfInBounds_toArray, List.set_cons_zero, List.set_cons_succ]
              refine takeT 8 hH (hy := .inl ⟨by rfl, by (intro w hSw; try obtain ⟨u0, u1, u2⟩ := hSw); (go_simp; try rfl)⟩) (h := ?_)
              simp only [Act.put, List.setIfInBounds_toArray, List.set_cons_zero, List.set_cons_succ]
              refine readyT [11] ?_
              refine consT (fun K hK => ?_) AllReadyH.nil
              have hz := T52.box 0 rfl
              have z0 := cellAt hz 0 (v := .int .i64 0) rfl
              have z1 := cellAt hz 1 (v := .int .i64 0) rfl
              have z2 := cellAt hz 2 (v := .string ⟨#[]⟩) rfl
              have z3 := frozenAt hz 0
              have z4 := frozenAt hz 1
              have z5 := frozenAt hz 2
              go_simp
              clear hz z0 z1 z2 z3 z4 z5
              clear hH
              have T53 : Sep w ([refB _ 5, excB _ ⟨#[]⟩, refB _ 3] ++ baseE) _ := (Sep.setBox (cs := #[.int .i64 4, .int .i64 5, .string ⟨#[]⟩]) (t := 33) (Sep.setBox (cs := #[.int .i64 4, .int .i64 0, .string ⟨#[]⟩]) (t := 33) (Sep.setBox (cs := #[.int .i64 0, .int .i64 0, .string ⟨#[]⟩]) (t := 33) T52 0 rfl 0 (.int .i64 4)) 0 rfl 1 (.int .i64 5)) 0 rfl 2 (.string ⟨#[]⟩))
              try simp only [size_drew, World.size_alloc] at T53
              refine hK.out _ _ (KbaseE.out _ [_, _, _] T53) (fun hH => ?_)
              clear hK K
              refine readyT [12] ?_
              refine consT (fun K hK => ?_) AllReadyH.nil
              have hz := T53.box 1 rfl
              have z0 := cellAt hz 0 (v := .string ⟨#[]⟩) rfl
              have z1 := cellAt hz 1 (v := .int .i64 0) rfl
              have z2 := cellAt hz 2 (v := .int .i64 0) rfl
              have z3 := cellAt hz 3 (v := .string ⟨#[]⟩) rfl
              have z4 := cellAt hz 4 (v := .bool false) rfl
              have z5 := frozenAt hz 0
              have z6 := frozenAt hz 1
              have z7 := frozenAt hz 2
              have z8 := frozenAt hz 3
              have z9 := frozenAt hz 4
              go_simp
              clear hz z0 z1 z2 z3 z4 z5 z6 z7 z8 z9
              clear hH
              have T54 : Sep w ([refB _ 5, excB _ ⟨#[]⟩, refB _ 3] ++ baseE) _ := (Sep.setBox (cs := #[.string ⟨#[]⟩, .int .i64 0, .int .i64 0, .string ⟨#[]⟩, .bool false]) (t := 45) (Sep.setBox (cs := #[.string ⟨#[]⟩, .int .i64 0, .int .i64 0, .string ⟨#[]⟩, .bool false]) (t := 45) (Sep.setBox (cs := #[.string ⟨#[]⟩, .int .i64 0, .int .i64 0, .string ⟨#[]⟩, .bool false]) (t := 45) (Sep.setBox (cs := #[.string ⟨#[]⟩, .int .i64 0, .int .i64 0, .string ⟨#[]⟩, .bool false]) (t := 45) (Sep.setBox (cs := #[.string ⟨#[]⟩, .int .i64 0, .int .i64 0, .string ⟨#[]⟩, .bool false]) (t := 45) T53 1 rfl 0 (.string ⟨#[]⟩)) 1 rfl 1 (.int .i64 0)) 1 rfl 2 (.int .i64 0)) 1 rfl 3 (.string ⟨#[]⟩)) 1 rfl 4 (.bool false))
              try simp only [size_drew, World.size_alloc] at T54
              refine hK.out _ _ (KbaseE.out _ [_, _, _] T54) (fun hH => ?_)
              clear hK K
              refine wpAnyH_done (by kernel_rfl) ?_ _
              as_aux_lemma =>
                go_wp2_with fail
                go_meet
                exact ⟨[_, _, _], 1, 0, _, _, rfl, rfl, by decide, rfl, rfl, T54⟩
          · go_simp
            have T55 : Sep w ([zeroB _, excB _ ⟨#[]⟩, refB _ 3] ++ baseC) _ := Sep.alloc T45 (.cells #[.int .i64 0, .int .i64 0, .string ⟨#[]⟩] 33)
            try simp only [size_drew, World.size_alloc] at T55
            clear hH
            refine hK.out _ _ (KbaseC.out _ [_, _, _] T55) (fun hH => ?_)
            clear hK K
            refine readyT [4] ?_
            refine consT (fun K hK => ?_) AllReadyH.nil
            go_simp
            go_wp2_with (go_at_call 19; refine (KM.out _ [_, _, _] T55).mono ?_; rintro e w56 ⟨rfl, T56⟩)
            clear hH
            refine hK.out _ _ (KbaseD.out _ [_, _, _] T56) (fun hH => ?_)
            clear hK K
            refine readyT [5] ?_
            refine consT (fun K hK => ?_) AllReadyH.nil
            go_simp
            go_wp2_with (go_at_call 28; refine (KC.out _ [_, _, _] _ 2 rfl T56).mono ?_; rintro e w57 ⟨rfl, T57⟩)
            clear hH
            refine hK.out _ _ (KbaseE.out _ [_, _, _] T57) (fun hH => ?_)
            clear hK K
            refine takeT 6 hH (hy := .inl ⟨by rfl, by (intro w hSw; try obtain ⟨u0, u1, u2⟩ := hSw); (go_simp; try rfl)⟩) (h := ?_)
            simp only [Act.put, List.setIfInBounds_toArray, List.set_cons_zero, List.set_cons_succ]
            refine takeT 7 hH (hy := .inl ⟨by rfl, by (intro w hSw; try obtain ⟨u0, u1, u2⟩ := hSw); (go_simp; try rfl)⟩) (h := ?_)
            simp only [Act.put, List.setIfInBounds_toArray, List.set_cons_zero, List.set_cons_succ]
            refine takeT 8 hH (hy := .inl ⟨by rfl, by (intro w hSw; try obtain ⟨u0, u1, u2⟩ := hSw); (go_simp; try rfl)⟩) (h := ?_)
            simp only [Act.put, List.setIfInBounds_toArray, List.set_cons_zero, List.set_cons_succ]
            refine readyT [11] ?_
            refine consT (fun K hK => ?_) AllReadyH.nil
            have hz := T57.box 0 rfl
            have z0 := cellAt hz 0 (v := .int .i64 0) rfl
            have z1 := cellAt hz 1 (v := .int .i64 0) rfl
            have z2 := cellAt hz 2 (v := .string ⟨#[]⟩) rfl
            have z3 := frozenAt hz 0
            have z4 := frozenAt hz 1
            have z5 := frozenAt hz 2
            go_simp
            clear hz z0 z1 z2 z3 z4 z5
            clear hH
            have T58 : Sep w ([refB _ 5, excB _ ⟨#[]⟩, refB _ 3] ++ baseE) _ := (Sep.setBox (cs := #[.int .i64 4, .int .i64 5, .string ⟨#[]⟩]) (t := 33) (Sep.setBox (cs := #[.int .i64 4, .int .i64 0, .string ⟨#[]⟩]) (t := 33) (Sep.setBox (cs := #[.int .i64 0, .int .i64 0, .string ⟨#[]⟩]) (t := 33) T57 0 rfl 0 (.int .i64 4)) 0 rfl 1 (.int .i64 5)) 0 rfl 2 (.string ⟨#[]⟩))
            try simp only [size_drew, World.size_alloc] at T58
            refine hK.out _ _ (KbaseE.out _ [_, _, _] T58) (fun hH => ?_)
            clear hK K
            refine readyT [12] ?_
            refine consT (fun K hK => ?_) AllReadyH.nil
            have hz := T58.box 1 rfl
            have z0 := cellAt hz 0 (v := .string ⟨#[]⟩) rfl
            have z1 := cellAt hz 1 (v := .int .i64 0) rfl
            have z2 := cellAt hz 2 (v := .int .i64 0) rfl
            have z3 := cellAt hz 3 (v := .string ⟨#[]⟩) rfl
            have z4 := cellAt hz 4 (v := .bool false) rfl
            have z5 := frozenAt hz 0
            have z6 := frozenAt hz 1
            have z7 := frozenAt hz 2
            have z8 := frozenAt hz 3
            have z9 := frozenAt hz 4
            go_simp
            clear hz z0 z1 z2 z3 z4 z5 z6 z7 z8 z9
            clear hH
            have T59 : Sep w ([refB _ 5, excB _ ⟨#[]⟩, refB _ 3] ++ baseE) _ := (Sep.setBox (cs := #[.string ⟨#[]⟩, .int .i64 0, .int .i64 0, .string ⟨#[]⟩, .bool false]) (t := 45) (Sep.setBox (cs := #[.string ⟨#[]⟩, .int .i64 0, .int .i64 0, .string ⟨#[]⟩, .bool false]) (t := 45) (Sep.setBox (cs := #[.string ⟨#[]⟩, .int .i64 0, .int .i64 0, .string ⟨#[]⟩, .bool false]) (t := 45) (Sep.setBox (cs := #[.string ⟨#[]⟩, .int .i64 0, .int .i64 0, .string ⟨#[]⟩, .bool false]) (t := 45) (Sep.setBox (cs := #[.string ⟨#[]⟩, .int .i64 0, .int .i64 0, .string ⟨#[]⟩, .bool false]) (t := 45) T58 1 rfl 0 (.string ⟨#[]⟩)) 1 rfl 1 (.int .i64 0)) 1 rfl 2 (.int .i64 0)) 1 rfl 3 (.string ⟨#[]⟩)) 1 rfl 4 (.bool false))
            try simp only [size_drew, World.size_alloc] at T59
            refine hK.out _ _ (KbaseE.out _ [_, _, _] T59) (fun hH => ?_)
            clear hK K
            refine wpAnyH_done (by kernel_rfl) ?_ _
            as_aux_lemma =>
              go_wp2_with fail
              go_meet
              exact ⟨[_, _, _], 1, 0, _, _, rfl, rfl, by decide, rfl, rfl, T59⟩
      · go_simp
        go_wp2_with (go_at_call 19; refine (KM.out _ [] T0).mono ?_; rintro e w60 ⟨rfl, T60⟩)
        clear hH
        refine hK.out _ _ (KbaseD.out _ [] T60) (fun hH => ?_)
        clear hK K
        refine readyT [2, 9, 10] ?_
        refine consT (fun K hK => ?_) (consT (fun K hK => ?_) (consT (fun K hK => ?_) AllReadyH.nil))
        · go_simp
          have T61 : Sep w ([refB _ 3] ++ baseD) _ := Sep.alloc T60 (.cells #[.int .i64 4, .int .i64 3, .string ⟨#[]⟩] 33)
          try simp only [size_drew, World.size_alloc] at T61
          clear hH
          refine hK.out _ _ (KbaseD.out _ [_] T61) (fun hH => ?_)
          clear hK K
          refine readyT [5, 9, 10] ?_
          refine consT (fun K hK => ?_) (consT (fun K hK => ?_) (consT (fun K hK => ?_) AllReadyH.nil))
          · go_simp
            go_wp2_with (go_at_call 28; refine (KC.out _ [_] _ 0 rfl T61).mono ?_; rintro e w62 ⟨rfl, T62⟩)
            clear hH
            refine hK.out _ _ (KbaseE.out _ [_] T62) (fun hH => ?_)
            clear hK K
            refine takeT 6 hH (hy := .inl ⟨by rfl, by (intro w hSw; try obtain ⟨u0, u1, u2⟩ := hSw); (go_simp; try rfl)⟩) (h := ?_)
            simp only [Act.put, List.setIfInBounds_toArray, List.set_cons_zero, List.set_cons_succ]
            refine takeT 7 hH (hy := .inl ⟨by rfl, by (intro w hSw; try obtain ⟨u0, u1, u2⟩ := hSw); (go_simp; try rfl)⟩) (h := ?_)
            simp only [Act.put, List.setIfInBounds_toArray, List.set_cons_zero, List.set_cons_succ]
            refine takeT 8 hH (hy := .inl ⟨by rfl, by (intro w hSw; try obtain ⟨u0, u1, u2⟩ := hSw); (go_simp; try rfl)⟩) (h := ?_)
            simp only [Act.put, List.setIfInBounds_toArray, List.set_cons_zero, List.set_cons_succ]
            refine readyT [9, 10] ?_
            refine consT (fun K hK => ?_) (consT (fun K hK => ?_) AllReadyH.nil)
            · go_simp
              have T63 : Sep w ([zeroB _, refB _ 3] ++ baseE) _ := Sep.alloc T62 (.cells #[.int .i64 0, .int .i64 0, .string ⟨#[]⟩] 33)
              try simp only [size_drew, World.size_alloc] at T63
              clear hH
              refine hK.out _ _ (KbaseE.out _ [_, _] T63) (fun hH => ?_)
              clear hK K
              refine readyT [10] ?_
              refine consT (fun K hK => ?_) AllReadyH.nil
              go_simp
              have T64 : Sep w ([excB _ ⟨#[]⟩, zeroB _, refB _ 3] ++ baseE) _ := Sep.alloc T63 (.cells #[.string ⟨#[]⟩, .int .i64 0, .int .i64 0, .string ⟨#[]⟩, .bool false] 45)
              try simp only [size_drew, World.size_alloc] at T64
              clear hH
              refine hK.out _ _ (KbaseE.out _ [_, _, _] T64) (fun hH => ?_)
              clear hK K
              refine readyT [11] ?_
              refine consT (fun K hK => ?_) AllReadyH.nil
              have hz := T64.box 1 rfl
              have z0 := cellAt hz 0 (v := .int .i64 0) rfl
              have z1 := cellAt hz 1 (v := .int .i64 0) rfl
              have z2 := cellAt hz 2 (v := .string ⟨#[]⟩) rfl
              have z3 := frozenAt hz 0
              have z4 := frozenAt hz 1
              have z5 := frozenAt hz 2
              go_simp
              clear hz z0 z1 z2 z3 z4 z5
              clear hH
              have T65 : Sep w ([excB _ ⟨#[]⟩, refB _ 5, refB _ 3] ++ baseE) _ := (Sep.alloc (Sep.alloc T62 (.cells #[.int .i64 4, .int .i64 5, .string ⟨#[]⟩] 33)) (.cells #[.string ⟨#[]⟩, .int .i64 0, .int .i64 0, .string ⟨#[]⟩, .bool false] 45))
              try simp only [size_drew, World.size_alloc] at T65
              refine hK.out _ _ (KbaseE.out _ [_, _, _] T65) (fun hH => ?_)
              clear hK K
              refine readyT [12] ?_
              refine consT (fun K hK => ?_) AllReadyH.nil
              have hz := T65.box 0 rfl
              have z0 := cellAt hz 0 (v := .string ⟨#[]⟩) rfl
              have z1 := cellAt hz 1 (v := .int .i64 0) rfl
              have z2 := cellAt hz 2 (v := .int .i64 0) rfl
              have z3 := cellAt hz 3 (v := .string ⟨#[]⟩) rfl
              have z4 := cellAt hz 4 (v := .bool false) rfl
              have z5 := frozenAt hz 0
              have z6 := frozenAt hz 1
              have z7 := frozenAt hz 2
              have z8 := frozenAt hz 3
              have z9 := frozenAt hz 4
              go_simp
              clear hz z0 z1 z2 z3 z4 z5 z6 z7 z8 z9
              clear hH
              have T66 : Sep w ([excB _ ⟨#[]⟩, refB _ 5, refB _ 3] ++ baseE) _ := (Sep.alloc (Sep.alloc T62 (.cells #[.int .i64 4, .int .i64 5, .string ⟨#[]⟩] 33)) (.cells #[.string ⟨#[]⟩, .int .i64 0, .int .i64 0, .string ⟨#[]⟩, .bool false] 45))
              try simp only [size_drew, World.size_alloc] at T66
              refine hK.out _ _ (KbaseE.out _ [_, _, _] T66) (fun hH => ?_)
              clear hK K
              refine wpAnyH_done (by kernel_rfl) ?_ _
              as_aux_lemma =>
                go_wp2_with fail
                go_meet
                exact ⟨[_, _, _], 0, 1, _, _, rfl, rfl, by decide, rfl, rfl, T66⟩
            · go_simp
              have T67 : Sep w ([excB _ ⟨#[]⟩, refB _ 3] ++ baseE) _ := Sep.alloc T62 (.cells #[.string ⟨#[]⟩, .int .i64 0, .int .i64 0, .string ⟨#[]⟩, .bool false] 45)
              try simp only [size_drew, World.size_alloc] at T67
              clear hH
              refine hK.out _ _ (KbaseE.out _ [_, _] T67) (fun hH => ?_)
              clear hK K
              refine readyT [9] ?_
              refine consT (fun K hK => ?_) AllReadyH.nil
              go_simp
              have T68 : Sep w ([zeroB _, excB _ ⟨#[]⟩, refB _ 3] ++ baseE) _ := Sep.alloc T67 (.cells #[.int .i64 0, .int .i64 0, .string ⟨#[]⟩] 33)
              try simp only [size_drew, World.size_alloc] at T68
              clear hH
              refine hK.out _ _ (KbaseE.out _ [_, _, _] T68) (fun hH => ?_)
              clear hK K
              refine readyT [11] ?_
              refine consT (fun K hK => ?_) AllReadyH.nil
              have hz := T68.box 0 rfl
              have z0 := cellAt hz 0 (v := .int .i64 0) rfl
              have z1 := cellAt hz 1 (v := .int .i64 0) rfl
              have z2 := cellAt hz 2 (v := .string ⟨#[]⟩) rfl
              have z3 := frozenAt hz 0
              have z4 := frozenAt hz 1
              have z5 := frozenAt hz 2
              go_simp
              clear hz z0 z1 z2 z3 z4 z5
              clear hH
              have T69 : Sep w ([refB _ 5, excB _ ⟨#[]⟩, refB _ 3] ++ baseE) _ := (Sep.alloc (Sep.alloc T62 (.cells #[.string ⟨#[]⟩, .int .i64 0, .int .i64 0, .string ⟨#[]⟩, .bool false] 45)) (.cells #[.int .i64 4, .int .i64 5, .string ⟨#[]⟩] 33))
              try simp only [size_drew, World.size_alloc] at T69
              refine hK.out _ _ (KbaseE.out _ [_, _, _] T69) (fun hH => ?_)
              clear hK K
              refine readyT [12] ?_
              refine consT (fun K hK => ?_) AllReadyH.nil
              have hz := T69.box 1 rfl
              have z0 := cellAt hz 0 (v := .string ⟨#[]⟩) rfl
              have z1 := cellAt hz 1 (v := .int .i64 0) rfl
              have z2 := cellAt hz 2 (v := .int .i64 0) rfl
              have z3 := cellAt hz 3 (v := .string ⟨#[]⟩) rfl
              have z4 := cellAt hz 4 (v := .bool false) rfl
              have z5 := frozenAt hz 0
              have z6 := frozenAt hz 1
              have z7 := frozenAt hz 2
              have z8 := frozenAt hz 3
              have z9 := frozenAt hz 4
              go_simp
              clear hz z0 z1 z2 z3 z4 z5 z6 z7 z8 z9
              clear hH
              have T70 : Sep w ([refB _ 5, excB _ ⟨#[]⟩, refB _ 3] ++ baseE) _ := (Sep.alloc (Sep.alloc T62 (.cells #[.string ⟨#[]⟩, .int .i64 0, .int .i64 0, .string ⟨#[]⟩, .bool false] 45)) (.cells #[.int .i64 4, .int .i64 5, .string ⟨#[]⟩] 33))
              try simp only [size_drew, World.size_alloc] at T70
              refine hK.out _ _ (KbaseE.out _ [_, _, _] T70) (fun hH => ?_)
              clear hK K
              refine wpAnyH_done (by kernel_rfl) ?_ _
              as_aux_lemma =>
                go_wp2_with fail
                go_meet
                exact ⟨[_, _, _], 1, 0, _, _, rfl, rfl, by decide, rfl, rfl, T70⟩
          · go_simp
            have T71 : Sep w ([zeroB _, refB _ 3] ++ baseD) _ := Sep.alloc T61 (.cells #[.int .i64 0, .int .i64 0, .string ⟨#[]⟩] 33)
            try simp only [size_drew, World.size_alloc] at T71
            clear hH
            refine hK.out _ _ (KbaseD.out _ [_, _] T71) (fun hH => ?_)
            clear hK K
            refine readyT [5, 10] ?_
            refine consT (fun K hK => ?_) (consT (fun K hK => ?_) AllReadyH.nil)
            · go_simp
              go_wp2_with (go_at_call 28; refine (KC.out _ [_, _] _ 1 rfl T71).mono ?_; rintro e w72 ⟨rfl, T72⟩)
              clear hH
              refine hK.out _ _ (KbaseE.out _ [_, _] T72) (fun hH => ?_)
              clear hK K
              refine takeT 6 hH (hy := .inl ⟨by rfl, by (intro w hSw; try obtain ⟨u0, u1, u2⟩ := hSw); (go_simp; try rfl)⟩) (h := ?_)
              simp only [Act.put, List.setIfInBounds_toArray, List.set_cons_zero, List.set_cons_succ]
              refine takeT 7 hH (hy := .inl ⟨by rfl, by (intro w hSw; try obtain ⟨u0, u1, u2⟩ := hSw); (go_simp; try rfl)⟩) (h := ?_)
              simp only [Act.put, List.setIfInBounds_toArray, List.set_cons_zero, List.set_cons_succ]
              refine takeT 8 hH (hy := .inl ⟨by rfl, by (intro w hSw; try obtain ⟨u0, u1, u2⟩ := hSw); (go_simp; try rfl)⟩) (h := ?_)
              simp only [Act.put, List.setIfInBounds_toArray, List.set_cons_zero, List.set_cons_succ]
              refine readyT [10] ?_
              refine consT (fun K hK => ?_) AllReadyH.nil
              go_simp
              have T73 : Sep w ([excB _ ⟨#[]⟩, zeroB _, refB _ 3] ++ baseE) _ := Sep.alloc T72 (.cells #[.string ⟨#[]⟩, .int .i64 0, .int .i64 0, .string ⟨#[]⟩, .bool false] 45)
              try simp only [size_drew, World.size_alloc] at T73
              clear hH
              refine hK.out _ _ (KbaseE.out _ [_, _, _] T73) (fun hH => ?_)
              clear hK K
              refine readyT [11] ?_
              refine consT (fun K hK => ?_) AllReadyH.nil
              have hz := T73.box 1 rfl
              have z0 := cellAt hz 0 (v := .int .i64 0) rfl
              have z1 := cellAt hz 1 (v := .int .i64 0) rfl
              have z2 := cellAt hz 2 (v := .string ⟨#[]⟩) rfl
              have z3 := frozenAt hz 0
              have z4 := frozenAt hz 1
              have z5 := frozenAt hz 2
              go_simp
              clear hz z0 z1 z2 z3 z4 z5
              clear hH
              have T74 : Sep w ([excB _ ⟨#[]⟩, refB _ 5, refB _ 3] ++ baseE) _ := (Sep.setBox (cs := #[.int .i64 4, .int .i64 5, .string ⟨#[]⟩]) (t := 33) (Sep.setBox (cs := #[.int .i64 4, .int .i64 0, .string ⟨#[]⟩]) (t := 33) (Sep.setBox (cs := #[.int .i64 0, .int .i64 0, .string ⟨#[]⟩]) (t := 33) T73 1 rfl 0 (.int .i64 4)) 1 rfl 1 (.int .i64 5)) 1 rfl 2 (.string ⟨#[]⟩))
              try simp only [size_drew, World.size_alloc] at T74
              refine hK.out _ _ (KbaseE.out _ [_, _, _] T74) (fun hH => ?_)
              clear hK K
              refine readyT [12] ?_
              refine consT (fun K hK => ?_) AllReadyH.nil
              have hz := T74.box 0 rfl
              have z0 := cellAt hz 0 (v := .string ⟨#[]⟩) rfl
              have z1 := cellAt hz 1 (v := .int .i64 0) rfl
              have z2 := cellAt hz 2 (v := .int .i64 0) rfl
              have z3 := cellAt hz 3 (v := .string ⟨#[]⟩) rfl
              have z4 := cellAt hz 4 (v := .bool false) rfl
              have z5 := frozenAt hz 0
              have z6 := frozenAt hz 1
              have z7 := frozenAt hz 2
              have z8 := frozenAt hz 3
              have z9 := frozenAt hz 4
              go_simp
              clear hz z0 z1 z2 z3 z4 z5 z6 z7 z8 z9
              clear hH
              have T75 : Sep w ([excB _ ⟨#[]⟩, refB _ 5, refB _ 3] ++ baseE) _ := (Sep.setBox (cs := #[.string ⟨#[]⟩, .int .i64 0, .int .i64 0, .string ⟨#[]⟩, .bool false]) (t := 45) (Sep.setBox (cs := #[.string ⟨#[]⟩, .int .i64 0, .int .i64 0, .string ⟨#[]⟩, .bool false]) (t := 45) (Sep.setBox (cs := #[.string ⟨#[]⟩, .int .i64 0, .int .i64 0, .string ⟨#[]⟩, .bool false]) (t := 45) (Sep.setBox (cs := #[.string ⟨#[]⟩, .int .i64 0, .int .i64 0, .string ⟨#[]⟩, .bool false]) (t := 45) (Sep.setBox (cs := #[.string ⟨#[]⟩, .int .i64 0, .int .i64 0, .string ⟨#[]⟩, .bool false]) (t := 45) T74 0 rfl 0 (.string ⟨#[]⟩)) 0 rfl 1 (.int .i64 0)) 0 rfl 2 (.int .i64 0)) 0 rfl 3 (.string ⟨#[]⟩)) 0 rfl 4 (.bool false))
              try simp only [size_drew, World.size_alloc] at T75
              refine hK.out _ _ (KbaseE.out _ [_, _, _] T75) (fun hH => ?_)
              clear hK K
              refine wpAnyH_done (by kernel_rfl) ?_ _
              as_aux_lemma =>
                go_wp2_with fail
                go_meet
                exact ⟨[_, _, _], 0, 1, _, _, rfl, rfl, by decide, rfl, rfl, T75⟩
            · go_simp
              have T76 : Sep w ([excB _ ⟨#[]⟩, zeroB _, refB _ 3] ++ baseD) _ := Sep.alloc T71 (.cells #[.string ⟨#[]⟩, .int .i64 0, .int .i64 0, .string ⟨#[]⟩, .bool false] 45)
              try simp only [size_drew, World.size_alloc] at T76
              clear hH
              refine hK.out _ _ (KbaseD.out _ [_, _, _] T76) (fun hH => ?_)
              clear hK K
              refine readyT [5] ?_
              refine consT (fun K hK => ?_) AllReadyH.nil
              go_simp
              go_wp2_with (go_at_call 28; refine (KC.out _ [_, _, _] _ 2 rfl T76).mono ?_; rintro e w77 ⟨rfl, T77⟩)
              clear hH
              refine hK.out _ _ (KbaseE.out _ [_, _, _] T77) (fun hH => ?_)
              clear hK K
              refine takeT 6 hH (hy := .inl ⟨by rfl, by (intro w hSw; try obtain ⟨u0, u1, u2⟩ := hSw); (go_simp; try rfl)⟩) (h := ?_)
              simp only [Act.put, List.setIfInBounds_toArray, List.set_cons_zero, List.set_cons_succ]
              refine takeT 7 hH (hy := .inl ⟨by rfl, by (intro w hSw; try obtain ⟨u0, u1, u2⟩ := hSw); (go_simp; try rfl)⟩) (h := ?_)
              simp only [Act.put, List.setIfInBounds_toArray, List.set_cons_zero, List.set_cons_succ]
              refine takeT 8 hH (hy := .inl ⟨by rfl, by (intro w hSw; try obtain ⟨u0, u1, u2⟩ := hSw); (go_simp; try rfl)⟩) (h := ?_)
              simp only [Act.put, List.setIfInBounds_toArray, List.set_cons_zero, List.set_cons_succ]
              refine readyT [11] ?_
              refine consT (fun K hK => ?_) AllReadyH.nil
              have hz := T77.box 1 rfl
              have z0 := cellAt hz 0 (v := .int .i64 0) rfl
              have z1 := cellAt hz 1 (v := .int .i64 0) rfl
              have z2 := cellAt hz 2 (v := .string ⟨#[]⟩) rfl
              have z3 := frozenAt hz 0
              have z4 := frozenAt hz 1
              have z5 := frozenAt hz 2
              go_simp
              clear hz z0 z1 z2 z3 z4 z5
              clear hH
              have T78 : Sep w ([excB _ ⟨#[]⟩, refB _ 5, refB _ 3] ++ baseE) _ := (Sep.setBox (cs := #[.int .i64 4, .int .i64 5, .string ⟨#[]⟩]) (t := 33) (Sep.setBox (cs := #[.int .i64 4, .int .i64 0, .string ⟨#[]⟩]) (t := 33) (Sep.setBox (cs := #[.int .i64 0, .int .i64 0, .string ⟨#[]⟩]) (t := 33) T77 1 rfl 0 (.int .i64 4)) 1 rfl 1 (.int .i64 5)) 1 rfl 2 (.string ⟨#[]⟩))
              try simp only [size_drew, World.size_alloc] at T78
              refine hK.out _ _ (KbaseE.out _ [_, _, _] T78) (fun hH => ?_)
              clear hK K
              refine readyT [12] ?_
              refine consT (fun K hK => ?_) AllReadyH.nil
              have hz := T78.box 0 rfl
              have z0 := cellAt hz 0 (v := .string ⟨#[]⟩) rfl
              have z1 := cellAt hz 1 (v := .int .i64 0) rfl
              have z2 := cellAt hz 2 (v := .int .i64 0) rfl
              have z3 := cellAt hz 3 (v := .string ⟨#[]⟩) rfl
              have z4 := cellAt hz 4 (v := .bool false) rfl
              have z5 := frozenAt hz 0
              have z6 := frozenAt hz 1
              have z7 := frozenAt hz 2
              have z8 := frozenAt hz 3
              have z9 := frozenAt hz 4
              go_simp
              clear hz z0 z1 z2 z3 z4 z5 z6 z7 z8 z9
              clear hH
              have T79 : Sep w ([excB _ ⟨#[]⟩, refB _ 5, refB _ 3] ++ baseE) _ := (Sep.setBox (cs := #[.string ⟨#[]⟩, .int .i64 0, .int .i64 0, .string ⟨#[]⟩, .bool false]) (t := 45) (Sep.setBox (cs := #[.string ⟨#[]⟩, .int .i64 0, .int .i64 0, .string ⟨#[]⟩, .bool false]) (t := 45) (Sep.setBox (cs := #[.string ⟨#[]⟩, .int .i64 0, .int .i64 0, .string ⟨#[]⟩, .bool false]) (t := 45) (Sep.setBox (cs := #[.string ⟨#[]⟩, .int .i64 0, .int .i64 0, .string ⟨#[]⟩, .bool false]) (t := 45) (Sep.setBox (cs := #[.string ⟨#[]⟩, .int .i64 0, .int .i64 0, .string ⟨#[]⟩, .bool false]) (t := 45) T78 0 rfl 0 (.string ⟨#[]⟩)) 0 rfl 1 (.int .i64 0)) 0 rfl 2 (.int .i64 0)) 0 rfl 3 (.string ⟨#[]⟩)) 0 rfl 4 (.bool false))
              try simp only [size_drew, World.size_alloc] at T79
              refine hK.out _ _ (KbaseE.out _ [_, _, _] T79) (fun hH => ?_)
              clear hK K
              refine wpAnyH_done (by kernel_rfl) ?_ _
              as_aux_lemma =>
                go_wp2_with fail
                go_meet
                exact ⟨[_, _, _], 0, 1, _, _, rfl, rfl, by decide, rfl, rfl, T79⟩
          · go_simp
            have T80 : Sep w ([excB _ ⟨#[]⟩, refB _ 3] ++ baseD) _ := Sep.alloc T61 (.cells #[.string ⟨#[]⟩, .int .i64 0, .int .i64 0, .string ⟨#[]⟩, .bool false] 45)
            try simp only [size_drew, World.size_alloc] at T80
            clear hH
            refine hK.out _ _ (KbaseD.out _ [_, _] T80) (fun hH => ?_)
            clear hK K
            refine readyT [5, 9] ?_
            refine consT (fun K hK => ?_) (consT (fun K hK => ?_) AllReadyH.nil)
            · go_simp
              go_wp2_with (go_at_call 28; refine (KC.out _ [_, _] _ 1 rfl T80).mono ?_; rintro e w81 ⟨rfl, T81⟩)
              clear hH
              refine hK.out _ _ (KbaseE.out _ [_, _] T81) (fun hH => ?_)
              clear hK K
              refine takeT 6 hH (hy := .inl ⟨by rfl, by (intro w hSw; try obtain ⟨u0, u1, u2⟩ := hSw); (go_simp; try rfl)⟩) (h := ?_)
              simp only [Act.put, List.setIfInBounds_toArray, List.set_cons_zero, List.set_cons_succ]
              refine takeT 7 hH (hy := .inl ⟨by rfl, by (intro w hSw; try obtain ⟨u0, u1, u2⟩ := hSw); (go_simp; try rfl)⟩) (h := ?_)
              simp only [Act.put, List.setIfInBounds_toArray, List.set_cons_zero, List.set_cons_succ]
              refine takeT 8 hH (hy := .inl ⟨by rfl, by (intro w hSw; try obtain ⟨u0, u1, u2⟩ := hSw); (go_simp; try rfl)⟩) (h := ?_)
              simp only [Act.put, List.setIfInBounds_toArray, List.set_cons_zero, List.set_cons_succ]
              refine readyT [9] ?_
              refine consT (fun K hK => ?_) AllReadyH.nil
              go_simp
              have T82 : Sep w ([zeroB _, excB _ ⟨#[]⟩, refB _ 3] ++ baseE) _ := Sep.alloc T81 (.cells #[.int .i64 0, .int .i64 0, .string ⟨#[]⟩] 33)
              try simp only [size_drew, World.size_alloc] at T82
              clear hH
              refine hK.out _ _ (KbaseE.out _ [_, _, _] T82) (fun hH => ?_)
              clear hK K
              refine readyT [11] ?_
              refine consT (fun K hK => ?_) AllReadyH.nil
              have hz := T82.box 0 rfl
              have z0 := cellAt hz 0 (v := .int .i64 0) rfl
              have z1 := cellAt hz 1 (v := .int .i64 0) rfl
              have z2 := cellAt hz 2 (v := .string ⟨#[]⟩) rfl
              have z3 := frozenAt hz 0
              have z4 := frozenAt hz 1
              have z5 := frozenAt hz 2
              go_simp
              clear hz z0 z1 z2 z3 z4 z5
              clear hH
              have T83 : Sep w ([refB _ 5, excB _ ⟨#[]⟩, refB _ 3] ++ baseE) _ := (Sep.alloc T81 (.cells #[.int .i64 4, .int .i64 5, .string ⟨#[]⟩] 33))
              try simp only [size_drew, World.size_alloc] at T83
              refine hK.out _ _ (KbaseE.out _ [_, _, _] T83) (fun hH => ?_)
              clear hK K
              refine readyT [12] ?_
              refine consT (fun K hK => ?_) AllReadyH.nil
              have hz := T83.box 1 rfl
              have z0 := cellAt hz 0 (v := .string ⟨#[]⟩) rfl
              have z1 := cellAt hz 1 (v := .int .i64 0) rfl
              have z2 := cellAt hz 2 (v := .int .i64 0) rfl
              have z3 := cellAt hz 3 (v := .string ⟨#[]⟩) rfl
              have z4 := cellAt hz 4 (v := .bool false) rfl
              have z5 := frozenAt hz 0
              have z6 := frozenAt hz 1
              have z7 := frozenAt hz 2
              have z8 := frozenAt hz 3
              have z9 := frozenAt hz 4
              go_simp
              clear hz z0 z1 z2 z3 z4 z5 z6 z7 z8 z9
              clear hH
              have T84 : Sep w ([refB _ 5, excB _ ⟨#[]⟩, refB _ 3] ++ baseE) _ := (Sep.setBox (cs := #[.string ⟨#[]⟩, .int .i64 0, .int .i64 0, .string ⟨#[]⟩, .bool false]) (t := 45) (Sep.setBox (cs := #[.string ⟨#[]⟩, .int .i64 0, .int .i64 0, .string ⟨#[]⟩, .bool false]) (t := 45) (Sep.setBox (cs := #[.string ⟨#[]⟩, .int .i64 0, .int .i64 0, .string ⟨#[]⟩, .bool false]) (t := 45) (Sep.setBox (cs := #[.string ⟨#[]⟩, .int .i64 0, .int .i64 0, .string ⟨#[]⟩, .bool false]) (t := 45) (Sep.setBox (cs := #[.string ⟨#[]⟩, .int .i64 0, .int .i64 0, .string ⟨#[]⟩, .bool false]) (t := 45) T83 1 rfl 0 (.string ⟨#[]⟩)) 1 rfl 1 (.int .i64 0)) 1 rfl 2 (.int .i64 0)) 1 rfl 3 (.string ⟨#[]⟩)) 1 rfl 4 (.bool false))
              try simp only [size_drew, World.size_alloc] at T84
              refine hK.out _ _ (KbaseE.out _ [_, _, _] T84) (fun hH => ?_)
              clear hK K
              refine wpAnyH_done (by kernel_rfl) ?_ _
              as_aux_lemma =>
                go_wp2_with fail
                go_meet
                exact ⟨[_, _, _], 1, 0, _, _, rfl, rfl, by decide, rfl, rfl, T84⟩
            · go_simp
              have T85 : Sep w ([zeroB _, excB _ ⟨#[]⟩, refB _ 3] ++ baseD) _ := Sep.alloc T80 (.cells #[.int .i64 0, .int .i64 0, .string ⟨#[]⟩] 33)
              try simp only [size_drew, World.size_alloc] at T85
              clear hH
              refine hK.out _ _ (KbaseD.out _ [_, _, _] T85) (fun hH => ?_)
              clear hK K
              refine readyT [5] ?_
              refine consT (fun K hK => ?_) AllReadyH.nil
              go_simp
              go_wp2_with (go_at_call 28; refine (KC.out _ [_, _, _] _ 2 rfl T85).mono ?_; rintro e w86 ⟨rfl, T86⟩)
              clear hH
              refine hK.out _ _ (KbaseE.out _ [_, _, _] T86) (fun hH => ?_)
              clear hK K
              refine takeT 6 hH (hy := .inl ⟨by rfl, by (intro w hSw; try obtain ⟨u0, u1, u2⟩ := hSw); (go_simp; try rfl)⟩) (h := ?_)
              simp only [Act.put, List.setIfInBounds_toArray, List.set_cons_zero, List.set_cons_succ]
              refine takeT 7 hH (hy := .inl ⟨by rfl, by (intro w hSw; try obtain ⟨u0, u1, u2⟩ := hSw); (go_simp; try rfl)⟩) (h := ?_)
              simp only [Act.put, List.setIfInBounds_toArray, List.set_cons_zero, List.set_cons_succ]
              refine takeT 8 hH (hy := .inl ⟨by rfl, by (intro w hSw; try obtain ⟨u0, u1, u2⟩ := hSw); (go_simp; try rfl)⟩) (h := ?_)
              simp only [Act.put, List.setIfInBounds_toArray, List.set_cons_zero, List.set_cons_succ]
              refine readyT [11] ?_
              refine consT (fun K hK => ?_) AllReadyH.nil
              have hz := T86.box 0 rfl
              have z0 := cellAt hz 0 (v := .int .i64 0) rfl
              have z1 := cellAt hz 1 (v := .int .i64 0) rfl
              have z2 := cellAt hz 2 (v := .string ⟨#[]⟩) rfl
              have z3 := frozenAt hz 0
              have z4 := frozenAt hz 1
              have z5 := frozenAt hz 2
              go_simp
              clear hz z0 z1 z2 z3 z4 z5
              clear hH
              have T87 : Sep w ([refB _ 5, excB _ ⟨#[]⟩, refB _ 3] ++ baseE) _ := (Sep.setBox (cs := #[.int .i64 4, .int .i64 5, .string ⟨#[]⟩]) (t := 33) (Sep.setBox (cs := #[.int .i64 4, .int .i64 0, .string ⟨#[]⟩]) (t := 33) (Sep.setBox (cs := #[.int .i64 0, .int .i64 0, .string ⟨#[]⟩]) (t := 33) T86 0 rfl 0 (.int .i64 4)) 0 rfl 1 (.int .i64 5)) 0 rfl 2 (.string ⟨#[]⟩))
              try simp only [size_drew, World.size_alloc] at T87
              refine hK.out _ _ (KbaseE.out _ [_, _, _] T87) (fun hH => ?_)
              clear hK K
              refine readyT [12] ?_
              refine consT (fun K hK => ?_) AllReadyH.nil
              have hz := T87.box 1 rfl
              have z0 := cellAt hz 0 (v := .string ⟨#[]⟩) rfl
              have z1 := cellAt hz 1 (v := .int .i64 0) rfl
              have z2 := cellAt hz 2 (v := .int .i64 0) rfl
              have z3 := cellAt hz 3 (v := .string ⟨#[]⟩) rfl
              have z4 := cellAt hz 4 (v := .bool false) rfl
              have z5 := frozenAt hz 0
              have z6 := frozenAt hz 1
              have z7 := frozenAt hz 2
              have z8 := frozenAt hz 3
              have z9 := frozenAt hz 4
              go_simp
              clear hz z0 z1 z2 z3 z4 z5 z6 z7 z8 z9
              clear hH
              have T88 : Sep w ([refB _ 5, excB _ ⟨#[]⟩, refB _ 3] ++ baseE) _ := (Sep.setBox (cs := #[.string ⟨#[]⟩, .int .i64 0, .int .i64 0, .string ⟨#[]⟩, .bool false]) (t := 45) (Sep.setBox (cs := #[.string ⟨#[]⟩, .int .i64 0, .int .i64 0, .string ⟨#[]⟩, .bool false]) (t := 45) (Sep.setBox (cs := #[.string ⟨#[]⟩, .int .i64 0, .int .i64 0, .string ⟨#[]⟩, .bool false]) (t := 45) (Sep.setBox (cs := #[.string ⟨#[]⟩, .int .i64 0, .int .i64 0, .string ⟨#[]⟩, .bool false]) (t := 45) (Sep.setBox (cs := #[.string ⟨#[]⟩, .int .i64 0, .int .i64 0, .string ⟨#[]⟩, .bool false]) (t := 45) T87 1 rfl 0 (.string ⟨#[]⟩)) 1 rfl 1 (.int .i64 0)) 1 rfl 2 (.int .i64 0)) 1 rfl 3 (.string ⟨#[]⟩)) 1 rfl 4 (.bool false))
              try simp only [size_drew, World.size_alloc] at T88
              refine hK.out _ _ (KbaseE.out _ [_, _, _] T88) (fun hH => ?_)
              clear hK K
              refine wpAnyH_done (by kernel_rfl) ?_ _
              as_aux_lemma =>
                go_wp2_with fail
                go_meet
                exact ⟨[_, _, _], 1, 0, _, _, rfl, rfl, by decide, rfl, rfl, T88⟩
        · go_simp
          have T89 : Sep w ([zeroB _] ++ baseD) _ := Sep.alloc T60 (.cells #[.int .i64 0, .int .i64 0, .string ⟨#[]⟩] 33)
          try simp only [size_drew, World.size_alloc] at T89
          clear hH
          refine hK.out _ _ (KbaseD.out _ [_] T89) (fun hH => ?_)
          clear hK K
          refine readyT [2, 10] ?_
          refine consT (fun K hK => ?_) (consT (fun K hK => ?_) AllReadyH.nil)
          · go_simp
            have T90 : Sep w ([refB _ 3, zeroB _] ++ baseD) _ := Sep.alloc T89 (.cells #[.int .i64 4, .int .i64 3, .string ⟨#[]⟩] 33)
            try simp only [size_drew, World.size_alloc] at T90
            clear hH
            refine hK.out _ _ (KbaseD.out _ [_, _] T90) (fun hH => ?_)
            clear hK K
            refine readyT [5, 10] ?_
            refine consT (fun K hK => ?_) (consT (fun K hK => ?_) AllReadyH.nil)
            · go_simp
              go_wp2_with (go_at_call 28; refine (KC.out _ [_, _] _ 0 rfl T90).mono ?_; rintro e w91 ⟨rfl, T91⟩)
              clear hH
              refine hK.out _ _ (KbaseE.out _ [_, _] T91) (fun hH => ?_)
              clear hK K
              refine takeT 6 hH (hy := .inl ⟨by rfl, by (intro w hSw; try obtain ⟨u0, u1, u2⟩ := hSw); (go_simp; try rfl)⟩) (h := ?_)
              simp only [Act.put, List.setIfInBounds_toArray, List.set_cons_zero, List.set_cons_succ]
              refine takeT 7 hH (hy := .inl ⟨by rfl, by (intro w hSw; try obtain ⟨u0, u1, u2⟩ := hSw); (go_simp; try rfl)⟩) (h := ?_)
              simp only [Act.put, List.setIfInBounds_toArray, List.set_cons_zero, List.set_cons_succ]
              refine takeT 8 hH (hy := .inl ⟨by rfl, by (intro w hSw; try obtain ⟨u0, u1, u2⟩ := hSw); (go_simp; try rfl)⟩) (h := ?_)
              simp only [Act.put, List.setIfInBounds_toArray, List.set_cons_zero, List.set_cons_succ]
              refine readyT [10] ?_
              refine consT (fun K hK => ?_) AllReadyH.nil
              go_simp
              have T92 : Sep w ([excB _ ⟨#[]⟩, refB _ 3, zeroB _] ++ baseE) _ := Sep.alloc T91 (.cells #[.string ⟨#[]⟩, .int .i64 0, .int .i64 0, .string ⟨#[]⟩, .bool false] 45)
              try simp only [size_drew, World.size_alloc] at T92
              clear hH
              refine hK.out _ _ (KbaseE.out _ [_, _, _] T92) (fun hH => ?_)
              clear hK K
              refine readyT [11] ?_
              refine consT (fun K hK => ?_) AllReadyH.nil
              have hz := T92.box 2 rfl
              have z0 := cellAt hz 0 (v := .int .i64 0) rfl
              have z1 := cellAt hz 1 (v := .int .i64 0) rfl
              have z2 := cellAt hz 2 (v := .string ⟨#[]⟩) rfl
              have z3 := frozenAt hz 0
              have z4 := frozenAt hz 1
              have z5 := frozenAt hz 2
              go_simp
              clear hz z0 z1 z2 z3 z4 z5
              clear hH
              have T93 : Sep w ([excB _ ⟨#[]⟩, refB _ 3, refB _ 5] ++ baseE) _ := (Sep.setBox (cs := #[.int .i64 4, .int .i64 5, .string ⟨#[]⟩]) (t := 33) (Sep.setBox (cs := #[.int .i64 4, .int .i64 0, .string ⟨#[]⟩]) (t := 33) (Sep.setBox (cs := #[.int .i64 0, .int .i64 0, .string ⟨#[]⟩]) (t := 33) T92 2 rfl 0 (.int .i64 4)) 2 rfl 1 (.int .i64 5)) 2 rfl 2 (.string ⟨#[]⟩))
              try simp only [size_drew, World.size_alloc] at T93
              refine hK.out _ _ (KbaseE.out _ [_, _, _] T93) (fun hH => ?_)
              clear hK K
              refine readyT [12] ?_
              refine consT (fun K hK => ?_) AllReadyH.nil
              have hz := T93.box 0 rfl
              have z0 := cellAt hz 0 (v := .string ⟨#[]⟩) rfl
              have z1 := cellAt hz 1 (v := .int .i64 0) rfl
              have z2 := cellAt hz 2 (v := .int .i64 0) rfl
              have z3 := cellAt hz 3 (v := .string ⟨#[]⟩) rfl
              have z4 := cellAt hz 4 (v := .bool false) rfl
              have z5 := frozenAt hz 0
              have z6 := frozenAt hz 1
              have z7 := frozenAt hz 2
              have z8 := frozenAt hz 3
              have z9 := frozenAt hz 4
              go_simp
              clear hz z0 z1 z2 z3 z4 z5 z6 z7 z8 z9
              clear hH
              have T94 : Sep w ([excB _ ⟨#[]⟩, refB _ 3, refB _ 5] ++ baseE) _ := (Sep.setBox (cs := #[.string ⟨#[]⟩, .int .i64 0, .int .i64 0, .string ⟨#[]⟩, .bool false]) (t := 45) (Sep.setBox (cs := #[.string ⟨#[]⟩, .int .i64 0, .int .i64 0, .string ⟨#[]⟩, .bool false]) (t := 45) (Sep.setBox (cs := #[.string ⟨#[]⟩, .int .i64 0, .int .i64 0, .string ⟨#[]⟩, .bool false]) (t := 45) (Sep.setBox (cs := #[.string ⟨#[]⟩, .int .i64 0, .int .i64 0, .string ⟨#[]⟩, .bool false]) (t := 45) (Sep.setBox (cs := #[.string ⟨#[]⟩, .int .i64 0, .int .i64 0, .string ⟨#[]⟩, .bool false]) (t := 45) T93 0 rfl 0 (.string ⟨#[]⟩)) 0 rfl 1 (.int .i64 0)) 0 rfl 2 (.int .i64 0)) 0 rfl 3 (.string ⟨#[]⟩)) 0 rfl 4 (.bool false))
              try simp only [size_drew, World.size_alloc] at T94
              refine hK.out _ _ (KbaseE.out _ [_, _, _] T94) (fun hH => ?_)
              clear hK K
              refine wpAnyH_done (by kernel_rfl) ?_ _
              as_aux_lemma =>
                go_wp2_with fail
                go_meet
                exact ⟨[_, _, _], 0, 2, _, _, rfl, rfl, by decide, rfl, rfl, T94⟩
            · go_simp
              have T95 : Sep w ([excB _ ⟨#[]⟩, refB _ 3, zeroB _] ++ baseD) _ := Sep.alloc T90 (.cells #[.string ⟨#[]⟩, .int .i64 0, .int .i64 0, .string ⟨#[]⟩, .bool false] 45)
              try simp only [size_drew, World.size_alloc] at T95
              clear hH
              refine hK.out _ _ (KbaseD.out _ [_, _, _] T95) (fun hH => ?_)
              clear hK K
              refine readyT [5] ?_
              refine consT (fun K hK => ?_) AllReadyH.nil
              go_simp
              go_wp2_with (go_at_call 28; refine (KC.out _ [_, _, _] _ 1 rfl T95).mono ?_; rintro e w96 ⟨rfl, T96⟩)
              clear hH
              refine hK.out _ _ (KbaseE.out _ [_, _, _] T96) (fun hH => ?_)
              clear hK K
              refine takeT 6 hH (hy := .inl ⟨by rfl, by (intro w hSw; try obtain ⟨u0, u1, u2⟩ := hSw); (go_simp; try rfl)⟩) (h := ?_)
              simp only [Act.put, List.setIfInBounds_toArray, List.set_cons_zero, List.set_cons_succ]
              refine takeT 7 hH (hy := .inl ⟨by rfl, by (intro w hSw; try obtain ⟨u0, u1, u2⟩ := hSw); (go_simp; try rfl)⟩) (h := ?_)
              simp only [Act.put, List.setIfInBounds_toArray, List.set_cons_zero, List.set_cons_succ]
              refine takeT 8 hH (hy := .inl ⟨by rfl, by (intro w hSw; try obtain ⟨u0, u1, u2⟩ := hSw); (go_simp; try rfl)⟩) (h := ?_)
              simp only [Act.put, List.setIfInBounds_toArray, List.set_cons_zero, List.set_cons_succ]
              refine readyT [11] ?_
              refine consT (fun K hK => ?_) AllReadyH.nil
              have hz := T96.box 2 rfl
              have z0 := cellAt hz 0 (v := .int .i64 0) rfl
              have z1 := cellAt hz 1 (v := .int .i64 0) rfl
              have z2 := cellAt hz 2 (v := .string ⟨#[]⟩) rfl
              have z3 := frozenAt hz 0
              have z4 := frozenAt hz 1
              have z5 := frozenAt hz 2
              go_simp
              clear hz z0 z1 z2 z3 z4 z5
              clear hH
              have T97 : Sep w ([excB _ ⟨#[]⟩, refB _ 3, refB _ 5] ++ baseE) _ := (Sep.setBox (cs := #[.int .i64 4, .int .i64 5, .string ⟨#[]⟩]) (t := 33) (Sep.setBox (cs := #[.int .i64 4, .int .i64 0, .string ⟨#[]⟩]) (t := 33) (Sep.setBox (cs := #[.int .i64 0, .int .i64 0, .string ⟨#[]⟩]) (t := 33) T96 2 rfl 0 (.int .i64 4)) 2 rfl 1 (.int .i64 5)) 2 rfl 2 (.string ⟨#[]⟩))
              try simp only [size_drew, World.size_alloc] at T97
              refine hK.out _ _ (KbaseE.out _ [_, _, _] T97) (fun hH => ?_)
              clear hK K
              refine readyT [12] ?_
              refine consT (fun K hK => ?_) AllReadyH.nil
              have hz := T97.box 0 rfl
              have z0 := cellAt hz 0 (v := .string ⟨#[]⟩) rfl
              have z1 := cellAt hz 1 (v := .int .i64 0) rfl
              have z2 := cellAt hz 2 (v := .int .i64 0) rfl
              have z3 := cellAt hz 3 (v := .string ⟨#[]⟩) rfl
              have z4 := cellAt hz 4 (v := .bool false) rfl
              have z5 := frozenAt hz 0
              have z6 := frozenAt hz 1
              have z7 := frozenAt hz 2
              have z8 := frozenAt hz 3
              have z9 := frozenAt hz 4
              go_simp
              clear hz z0 z1 z2 z3 z4 z5 z6 z7 z8 z9
              clear hH
              have T98 : Sep w ([excB _ ⟨#[]⟩, refB _ 3, refB _ 5] ++ baseE) _ := (Sep.setBox (cs := #[.string ⟨#[]⟩, .int .i64 0, .int .i64 0, .string ⟨#[]⟩, .bool false]) (t := 45) (Sep.setBox (cs := #[.string ⟨#[]⟩, .int .i64 0, .int .i64 0, .string ⟨#[]⟩, .bool false]) (t := 45) (Sep.setBox (cs := #[.string ⟨#[]⟩, .int .i64 0, .int .i64 0, .string ⟨#[]⟩, .bool false]) (t := 45) (Sep.setBox (cs := #[.string ⟨#[]⟩, .int .i64 0, .int .i64 0, .string ⟨#[]⟩, .bool false]) (t := 45) (Sep.setBox (cs := #[.string ⟨#[]⟩, .int .i64 0, .int .i64 0, .string ⟨#[]⟩, .bool false]) (t := 45) T97 0 rfl 0 (.string ⟨#[]⟩)) 0 rfl 1 (.int .i64 0)) 0 rfl 2 (.int .i64 0)) 0 rfl 3 (.string ⟨#[]⟩)) 0 rfl 4 (.bool false))
              try simp only [size_drew, World.size_alloc] at T98
              refine hK.out _ _ (KbaseE.out _ [_, _, _] T98) (fun hH => ?_)
              clear hK K
              refine wpAnyH_done (by kernel_rfl) ?_ _
              as_aux_lemma =>
                go_wp2_with fail
                go_meet
                exact ⟨[_, _, _], 0, 2, _, _, rfl, rfl, by decide, rfl, rfl, T98⟩
          · go_simp
            have T99 : Sep w ([excB _ ⟨#[]⟩, zeroB _] ++ baseD) _ := Sep.alloc T89 (.cells #[.string ⟨#[]⟩, .int .i64 0, .int .i64 0, .string ⟨#[]⟩, .bool false] 45)
            try simp only [size_drew, World.size_alloc] at T99
            clear hH
            refine hK.out _ _ (KbaseD.out _ [_, _] T99) (fun hH => ?_)
            clear hK K
            refine readyT [2] ?_
            refine consT (fun K hK => ?_) AllReadyH.nil
            go_simp
            have T100 : Sep w ([refB _ 3, excB _ ⟨#[]⟩, zeroB _] ++ baseD) _ := Sep.alloc T99 (.cells #[.int .i64 4, .int .i64 3, .string ⟨#[]⟩] 33)
            try simp only [size_drew, World.size_alloc] at T100
            clear hH
            refine hK.out _ _ (KbaseD.out _ [_, _, _] T100) (fun hH => ?_)
            clear hK K
            refine readyT [5] ?_
            refine consT (fun K hK => ?_) AllReadyH.nil
            go_simp
            go_wp2_with (go_at_call 28; refine (KC.out _ [_, _, _] _ 0 rfl T100).mono ?_; rintro e w101 ⟨rfl, T101⟩)
            clear hH
            refine hK.out _ _ (KbaseE.out _ [_, _, _] T101) (fun hH => ?_)
            clear hK K
            refine takeT 6 hH (hy := .inl ⟨by rfl, by (intro w hSw; try obtain ⟨u0, u1, u2⟩ := hSw); (go_simp; try rfl)⟩) (h := ?_)
            simp only [Act.put, List.setIfInBounds_toArray, List.set_cons_zero, List.set_cons_succ]
            refine takeT 7 hH (hy := .inl ⟨by rfl, by (intro w hSw; try obtain ⟨u0, u1, u2⟩ := hSw); (go_simp; try rfl)⟩) (h := ?_)
            simp only [Act.put, List.setIfInBounds_toArray, List.set_cons_zero, List.set_cons_succ]
            refine takeT 8 hH (hy := .inl ⟨by rfl, by (intro w hSw; try obtain ⟨u0, u1, u2⟩ := hSw); (go_simp; try rfl)⟩) (h := ?_)
            simp only [Act.put, List.setIfInBounds_toArray, List.set_cons_zero, List.set_cons_succ]
            refine readyT [11] ?_
            refine consT (fun K hK => ?_) AllReadyH.nil
            have hz := T101.box 2 rfl
            have z0 := cellAt hz 0 (v := .int .i64 0) rfl
            have z1 := cellAt hz 1 (v := .int .i64 0) rfl
            have z2 := cellAt hz 2 (v := .string ⟨#[]⟩) rfl
            have z3 := frozenAt hz 0
            have z4 := frozenAt hz 1
            have z5 := frozenAt hz 2
            go_simp
            clear hz z0 z1 z2 z3 z4 z5
            clear hH
            have T102 : Sep w ([refB _ 3, excB _ ⟨#[]⟩, refB _ 5] ++ baseE) _ := (Sep.setBox (cs := #[.int .i64 4, .int .i64 5, .string ⟨#[]⟩]) (t := 33) (Sep.setBox (cs := #[.int .i64 4, .int .i64 0, .string ⟨#[]⟩]) (t := 33) (Sep.setBox (cs := #[.int .i64 0, .int .i64 0, .string ⟨#[]⟩]) (t := 33) T101 2 rfl 0 (.int .i64 4)) 2 rfl 1 (.int .i64 5)) 2 rfl 2 (.string ⟨#[]⟩))
            try simp only [size_drew, World.size_alloc] at T102
            refine hK.out _ _ (KbaseE.out _ [_, _, _] T102) (fun hH => ?_)
            clear hK K
            refine readyT [12] ?_
            refine consT (fun K hK => ?_) AllReadyH.nil
            have hz := T102.box 1 rfl
            have z0 := cellAt hz 0 (v := .string ⟨#[]⟩) rfl
            have z1 := cellAt hz 1 (v := .int .i64 0) rfl
            have z2 := cellAt hz 2 (v := .int .i64 0) rfl
            have z3 := cellAt hz 3 (v := .string ⟨#[]⟩) rfl
            have z4 := cellAt hz 4 (v := .bool false) rfl
            have z5 := frozenAt hz 0
            have z6 := frozenAt hz 1
            have z7 := frozenAt hz 2
            have z8 := frozenAt hz 3
            have z9 := frozenAt hz 4
            go_simp
            clear hz z0 z1 z2 z3 z4 z5 z6 z7 z8 z9
            clear hH
            have T103 : Sep w ([refB _ 3, excB _ ⟨#[]⟩, refB _ 5] ++ baseE) _ := (Sep.setBox (cs := #[.string ⟨#[]⟩, .int .i64 0, .int .i64 0, .string ⟨#[]⟩, .bool false]) (t := 45) (Sep.setBox (cs := #[.string ⟨#[]⟩, .int .i64 0, .int .i64 0, .string ⟨#[]⟩, .bool false]) (t := 45) (Sep.setBox (cs := #[.string ⟨#[]⟩, .int .i64 0, .int .i64 0, .string ⟨#[]⟩, .bool false]) (t := 45) (Sep.setBox (cs := #[.string ⟨#[]⟩, .int .i64 0, .int .i64 0, .string ⟨#[]⟩, .bool false]) (t := 45) (Sep.setBox (cs := #[.string ⟨#[]⟩, .int .i64 0, .int .i64 0, .string ⟨#[]⟩, .bool false]) (t := 45) T102 1 rfl 0 (.string ⟨#[]⟩)) 1 rfl 1 (.int .i64 0)) 1 rfl 2 (.int .i64 0)) 1 rfl 3 (.string ⟨#[]⟩)) 1 rfl 4 (.bool false))
            try simp only [size_drew, World.size_alloc] at T103
            refine hK.out _ _ (KbaseE.out _ [_, _, _] T103) (fun hH => ?_)
            clear hK K
            refine wpAnyH_done (by kernel_rfl) ?_ _
            as_aux_lemma =>
              go_wp2_with fail
              go_meet
              exact ⟨[_, _, _], 1, 2, _, _, rfl, rfl, by decide, rfl, rfl, T103⟩
        · go_simp
          have T104 : Sep w ([excB _ ⟨#[]⟩] ++ baseD) _ := Sep.alloc T60 (.cells #[.string ⟨#[]⟩, .int .i64 0, .int .i64 0, .string ⟨#[]⟩, .bool false] 45)
          try simp only [size_drew, World.size_alloc] at T104
          clear hH
          refine hK.out _ _ (KbaseD.out _ [_] T104) (fun hH => ?_)
          clear hK K
          refine readyT [2, 9] ?_
          refine consT (fun K hK => ?_) (consT (fun K hK => ?_) AllReadyH.nil)
          · go_simp
            have T105 : Sep w ([refB _ 3, excB _ ⟨#[]⟩] ++ baseD) _ := Sep.alloc T104 (.cells #[.int .i64 4, .int .i64 3, .string ⟨#[]⟩] 33)
            try simp only [size_drew, World.size_alloc] at T105
            clear hH
            refine hK.out _ _ (KbaseD.out _ [_, _] T105) (fun hH => ?_)
            clear hK K
            refine readyT [5, 9] ?_
            refine consT (fun K hK => ?_) (consT (fun K hK => ?_) AllReadyH.nil)
            · go_simp
              go_wp2_with (go_at_call 28; refine (KC.out _ [_, _] _ 0 rfl T105).mono ?_; rintro e w106 ⟨rfl, T106⟩)
              clear hH
              refine hK.out _ _ (KbaseE.out _ [_, _] T106) (fun hH => ?_)
              clear hK K
              refine takeT 6 hH (hy := .inl ⟨by rfl, by (intro w hSw; try obtain ⟨u0, u1, u2⟩ := hSw); (go_simp; try rfl)⟩) (h := ?_)
              simp only [Act.put, List.setIfInBounds_toArray, List.set_cons_zero, List.set_cons_succ]
              refine takeT 7 hH (hy := .inl ⟨by rfl, by (intro w hSw; try obtain ⟨u0, u1, u2⟩ := hSw); (go_simp; try rfl)⟩) (h := ?_)
              simp only [Act.put, List.setIfInBounds_toArray, List.set_cons_zero, List.set_cons_succ]
              refine takeT 8 hH (hy := .inl ⟨by rfl, by (intro w hSw; try obtain ⟨u0, u1, u2⟩ := hSw); (go_simp; try rfl)⟩) (h := ?_)
              simp only [Act.put, List.setIfInBounds_toArray, List.set_cons_zero, List.set_cons_succ]
              refine readyT [9] ?_
              refine consT (fun K hK => ?_) AllReadyH.nil
              go_simp
              have T107 : Sep w ([zeroB _, refB _ 3, excB _ ⟨#[]⟩] ++ baseE) _ := Sep.alloc T106 (.cells #[.int .i64 0, .int .i64 0, .string ⟨#[]⟩] 33)
              try simp only [size_drew, World.size_alloc] at T107
              clear hH
              refine hK.out _ _ (KbaseE.out _ [_, _, _] T107) (fun hH => ?_)
              clear hK K
              refine readyT [11] ?_
              refine consT (fun K hK => ?_) AllReadyH.nil
              have hz := T107.box 0 rfl
              have z0 := cellAt hz 0 (v := .int .i64 0) rfl
              have z1 := cellAt hz 1 (v := .int .i64 0) rfl
              have z2 := cellAt hz 2 (v := .string ⟨#[]⟩) rfl
              have z3 := frozenAt hz 0
              have z4 := frozenAt hz 1
              have z5 := frozenAt hz 2
              go_simp
              clear hz z0 z1 z2 z3 z4 z5
              clear hH
              have T108 : Sep w ([refB _ 5, refB _ 3, excB _ ⟨#[]⟩] ++ baseE) _ := (Sep.alloc T106 (.cells #[.int .i64 4, .int .i64 5, .string ⟨#[]⟩] 33))
              try simp only [size_drew, World.size_alloc] at T108
              refine hK.out _ _ (KbaseE.out _ [_, _, _] T108) (fun hH => ?_)
              clear hK K
              refine readyT [12] ?_
              refine consT (fun K hK => ?_) AllReadyH.nil
              have hz := T108.box 2 rfl
              have z0 := cellAt hz 0 (v := .string ⟨#[]⟩) rfl
              have z1 := cellAt hz 1 (v := .int .i64 0) rfl
              have z2 := cellAt hz 2 (v := .int .i64 0) rfl
              have z3 := cellAt hz 3 (v := .string ⟨#[]⟩) rfl
              have z4 := cellAt hz 4 (v := .bool false) rfl
              have z5 := frozenAt hz 0
              have z6 := frozenAt hz 1
              have z7 := frozenAt hz 2
              have z8 := frozenAt hz 3
              have z9 := frozenAt hz 4
              go_simp
              clear hz z0 z1 z2 z3 z4 z5 z6 z7 z8 z9
              clear hH
              have T109 : Sep w ([refB _ 5, refB _ 3, excB _ ⟨#[]⟩] ++ baseE) _ := (Sep.setBox (cs := #[.string ⟨#[]⟩, .int .i64 0, .int .i64 0, .string ⟨#[]⟩, .bool false]) (t := 45) (Sep.setBox (cs := #[.string ⟨#[]⟩, .int .i64 0, .int .i64 0, .string ⟨#[]⟩, .bool false]) (t := 45) (Sep.setBox (cs := #[.string ⟨#[]⟩, .int .i64 0, .int .i64 0, .string ⟨#[]⟩, .bool false]) (t := 45) (Sep.setBox (cs := #[.string ⟨#[]⟩, .int .i64 0, .int .i64 0, .string ⟨#[]⟩, .bool false]) (t := 45) (Sep.setBox (cs := #[.string ⟨#[]⟩, .int .i64 0, .int .i64 0, .string ⟨#[]⟩, .bool false]) (t := 45) T108 2 rfl 0 (.string ⟨#[]⟩)) 2 rfl 1 (.int .i64 0)) 2 rfl 2 (.int .i64 0)) 2 rfl 3 (.string ⟨#[]⟩)) 2 rfl 4 (.bool false))
              try simp only [size_drew, World.size_alloc] at T109
              refine hK.out _ _ (KbaseE.out _ [_, _, _] T109) (fun hH => ?_)
              clear hK K
              refine wpAnyH_done (by kernel_rfl) ?_ _
              as_aux_lemma =>
                go_wp2_with fail
                go_meet
                exact ⟨[_, _, _], 2, 0, _, _, rfl, rfl, by decide, rfl, rfl, T109⟩
            · go_simp
              have T110 : Sep w ([zeroB _, refB _ 3, excB _ ⟨#[]⟩] ++ baseD) _ := Sep.alloc T105 (.cells #[.int .i64 0, .int .i64 0, .string ⟨#[]⟩] 33)
              try simp only [size_drew, World.size_alloc] at T110
              clear hH
              refine hK.out _ _ (KbaseD.out _ [_, _, _] T110) (fun hH => ?_)
              clear hK K
              refine readyT [5] ?_
              refine consT (fun K hK => ?_) AllReadyH.nil
              go_simp
              go_wp2_with (go_at_call 28; refine (KC.out _ [_, _, _] _ 1 rfl T110).mono ?_; rintro e w111 ⟨rfl, T111⟩)
              clear hH
              refine hK.out _ _ (KbaseE.out _ [_, _, _] T111) (fun hH => ?_)
              clear hK K
              refine takeT 6 hH (hy := .inl ⟨by rfl, by (intro w hSw; try obtain ⟨u0, u1, u2⟩ := hSw); (go_simp; try rfl)⟩) (h := ?_)
              simp only [Act.put, List.setIfInBounds_toArray, List.set_cons_zero, List.set_cons_succ]
              refine takeT 7 hH (hy := .inl ⟨by rfl, by (intro w hSw; try obtain ⟨u0, u1, u2⟩ := hSw); (go_simp; try rfl)⟩) (h := ?_)
              simp only [Act.put, List.setIfInBounds_toArray, List.set_cons_zero, List.set_cons_succ]
              refine takeT 8 hH (hy := .inl ⟨by rfl, by (intro w hSw; try obtain ⟨u0, u1, u2⟩ := hSw); (go_simp; try rfl)⟩) (h := ?_)
              simp only [Act.put, List.setIfInBounds_toArray, List.set_cons_zero, List.set_cons_succ]
              refine readyT [11] ?_
              refine consT (fun K hK => ?_) AllReadyH.nil
              have hz := T111.box 0 rfl
              have z0 := cellAt hz 0 (v := .int .i64 0) rfl
              have z1 := cellAt hz 1 (v := .int .i64 0) rfl
              have z2 := cellAt hz 2 (v := .string ⟨#[]⟩) rfl
              have z3 := frozenAt hz 0
              have z4 := frozenAt hz 1
              have z5 := frozenAt hz 2
              go_simp
              clear hz z0 z1 z2 z3 z4 z5
              clear hH
              have T112 : Sep w ([refB _ 5, refB _ 3, excB _ ⟨#[]⟩] ++ baseE) _ := (Sep.setBox (cs := #[.int .i64 4, .int .i64 5, .string ⟨#[]⟩]) (t := 33) (Sep.setBox (cs := #[.int .i64 4, .int .i64 0, .string ⟨#[]⟩]) (t := 33) (Sep.setBox (cs := #[.int .i64 0, .int .i64 0, .string ⟨#[]⟩]) (t := 33) T111 0 rfl 0 (.int .i64 4)) 0 rfl 1 (.int .i64 5)) 0 rfl 2 (.string ⟨#[]⟩))
              try simp only [size_drew, World.size_alloc] at T112
              refine hK.out _ _ (KbaseE.out _ [_, _, _] T112) (fun hH => ?_)
              clear hK K
              refine readyT [12] ?_
              refine consT (fun K hK => ?_) AllReadyH.nil
              have hz := T112.box 2 rfl
              have z0 := cellAt hz 0 (v := .string ⟨#[]⟩) rfl
              have z1 := cellAt hz 1 (v := .int .i64 0) rfl
              have z2 := cellAt hz 2 (v := .int .i64 0) rfl
              have z3 := cellAt hz 3 (v := .string ⟨#[]⟩) rfl
              have z4 := cellAt hz 4 (v := .bool false) rfl
              have z5 := frozenAt hz 0
              have z6 := frozenAt hz 1
              have z7 := frozenAt hz 2
              have z8 := frozenAt hz 3
              have z9 := frozenAt hz 4
              go_simp
              clear hz z0 z1 z2 z3 z4 z5 z6 z7 z8 z9
              clear hH
              have T113 : Sep w ([refB _ 5, refB _ 3, excB _ ⟨#[]⟩] ++ baseE) _ := (Sep.setBox (cs := #[.string ⟨#[]⟩, .int .i64 0, .int .i64 0, .string ⟨#[]⟩, .bool false]) (t := 45) (Sep.setBox (cs := #[.string ⟨#[]⟩, .int .i64 0, .int .i64 0, .string ⟨#[]⟩, .bool false]) (t := 45) (Sep.setBox (cs := #[.string ⟨#[]⟩, .int .i64 0, .int .i64 0, .string ⟨#[]⟩, .bool false]) (t := 45) (Sep.setBox (cs := #[.string ⟨#[]⟩, .int .i64 0, .int .i64 0, .string ⟨#[]⟩, .bool false]) (t := 45) (Sep.setBox (cs := #[.string ⟨#[]⟩, .int .i64 0, .int .i64 0, .string ⟨#[]⟩, .bool false]) (t := 45) T112 2 rfl 0 (.string ⟨#[]⟩)) 2 rfl 1 (.int .i64 0)) 2 rfl 2 (.int .i64 0)) 2 rfl 3 (.string ⟨#[]⟩)) 2 rfl 4 (.bool false))
              try simp only [size_drew, World.size_alloc] at T113
              refine hK.out _ _ (KbaseE.out _ [_, _, _] T113) (fun hH => ?_)
              clear hK K
              refine wpAnyH_done (by kernel_rfl) ?_ _
              as_aux_lemma =>
                go_wp2_with fail
                go_meet
                exact ⟨[_, _, _], 2, 0, _, _, rfl, rfl, by decide, rfl, rfl, T113⟩
          · go_simp
            have T114 : Sep w ([zeroB _, excB _ ⟨#[]⟩] ++ baseD) _ := Sep.alloc T104 (.cells #[.int .i64 0, .int .i64 0, .string ⟨#[]⟩] 33)
            try simp only [size_drew, World.size_alloc] at T114
            clear hH
            refine hK.out _ _ (KbaseD.out _ [_, _] T114) (fun hH => ?_)
            clear hK K
            refine readyT [2] ?_
            refine consT (fun K hK => ?_) AllReadyH.nil
            go_simp
            have T115 : Sep w ([refB _ 3, zeroB _, excB _ ⟨#[]⟩] ++ baseD) _ := Sep.alloc T114 (.cells #[.int .i64 4, .int .i64 3, .string ⟨#[]⟩] 33)
            try simp only [size_drew, World.size_alloc] at T115
            clear hH
            refine hK.out _ _ (KbaseD.out _ [_, _, _] T115) (fun hH => ?_)
            clear hK K
            refine readyT [5] ?_
            refine consT (fun K hK => ?_) AllReadyH.nil
            go_simp
            go_wp2_with (go_at_call 28; refine (KC.out _ [_, _, _] _ 0 rfl T115).mono ?_; rintro e w116 ⟨rfl, T116⟩)
            clear hH
            refine hK.out _ _ (KbaseE.out _ [_, _, _] T116) (fun hH => ?_)
            clear hK K
            refine takeT 6 hH (hy := .inl ⟨by rfl, by (intro w hSw; try obtain ⟨u0, u1, u2⟩ := hSw); (go_simp; try rfl)⟩) (h := ?_)
            simp only [Act.put, List.setIfInBounds_toArray, List.set_cons_zero, List.set_cons_succ]
            refine takeT 7 hH (hy := .inl ⟨by rfl, by (intro w hSw; try obtain ⟨u0, u1, u2⟩ := hSw); (go_simp; try rfl)⟩) (h := ?_)
            simp only [Act.put, List.setIfInBounds_toArray, List.set_cons_zero, List.set_cons_succ]
            refine takeT 8 hH (hy := .inl ⟨by rfl, by (intro w hSw; try obtain ⟨u0, u1, u2⟩ := hSw); (go_simp; try rfl)⟩) (h := ?_)
            simp only [Act.put, List.setIfInBounds_toArray, List.set_cons_zero, List.set_cons_succ]
            refine readyT [11] ?_
            refine consT (fun K hK => ?_) AllReadyH.nil
            have hz := T116.box 1 rfl
            have z0 := cellAt hz 0 (v := .int .i64 0) rfl
            have z1 := cellAt hz 1 (v := .int .i64 0) rfl
            have z2 := cellAt hz 2 (v := .string ⟨#[]⟩) rfl
            have z3 := frozenAt hz 0
            have z4 := frozenAt hz 1
            have z5 := frozenAt hz 2
            go_simp
            clear hz z0 z1 z2 z3 z4 z5
            clear hH
            have T117 : Sep w ([refB _ 3, refB _ 5, excB _ ⟨#[]⟩] ++ baseE) _ := (Sep.setBox (cs := #[.int .i64 4, .int .i64 5, .string ⟨#[]⟩]) (t := 33) (Sep.setBox (cs := #[.int .i64 4, .int .i64 0, .string ⟨#[]⟩]) (t := 33) (Sep.setBox (cs := #[.int .i64 0, .int .i64 0, .string ⟨#[]⟩]) (t := 33) T116 1 rfl 0 (.int .i64 4)) 1 rfl 1 (.int .i64 5)) 1 rfl 2 (.string ⟨#[]⟩))
            try simp only [size_drew, World.size_alloc] at T117
            refine hK.out _ _ (KbaseE.out _ [_, _, _] T117) (fun hH => ?_)
            clear hK K
            refine readyT [12] ?_
            refine consT (fun K hK => ?_) AllReadyH.nil
            have hz := T117.box 2 rfl
            have z0 := cellAt hz 0 (v := .string ⟨#[]⟩) rfl
            have z1 := cellAt hz 1 (v := .int .i64 0) rfl
            have z2 := cellAt hz 2 (v := .int .i64 0) rfl
            have z3 := cellAt hz 3 (v := .string ⟨#[]⟩) rfl
            have z4 := cellAt hz 4 (v := .bool false) rfl
            have z5 := frozenAt hz 0
            have z6 := frozenAt hz 1
            have z7 := frozenAt hz 2
            have z8 := frozenAt hz 3
            have z9 := frozenAt hz 4
            go_simp
            clear hz z0 z1 z2 z3 z4 z5 z6 z7 z8 z9
            clear hH
            have T118 : Sep w ([refB _ 3, refB _ 5, excB _ ⟨#[]⟩] ++ baseE) _ := (Sep.setBox (cs := #[.string ⟨#[]⟩, .int .i64 0, .int .i64 0, .string ⟨#[]⟩, .bool false]) (t := 45) (Sep.setBox (cs := #[.string ⟨#[]⟩, .int .i64 0, .int .i64 0, .string ⟨#[]⟩, .bool false]) (t := 45) (Sep.setBox (cs := #[.string ⟨#[]⟩, .int .i64 0, .int .i64 0, .string ⟨#[]⟩, .bool false]) (t := 45) (Sep.setBox (cs := #[.string ⟨#[]⟩, .int .i64 0, .int .i64 0, .string ⟨#[]⟩, .bool false]) (t := 45) (Sep.setBox (cs := #[.string ⟨#[]⟩, .int .i64 0, .int .i64 0, .string ⟨#[]⟩, .bool false]) (t := 45) T117 2 rfl 0 (.string ⟨#[]⟩)) 2 rfl 1 (.int .i64 0)) 2 rfl 2 (.int .i64 0)) 2 rfl 3 (.string ⟨#[]⟩)) 2 rfl 4 (.bool false))
            try simp only [size_drew, World.size_alloc] at T118
            refine hK.out _ _ (KbaseE.out _ [_, _, _] T118) (fun hH => ?_)
            clear hK K
            refine wpAnyH_done (by kernel_rfl) ?_ _
            as_aux_lemma =>
              go_wp2_with fail
              go_meet
              exact ⟨[_, _, _], 2, 1, _, _, rfl, rfl, by decide, rfl, rfl, T118⟩
      · go_simp
        have T119 : Sep w ([zeroB _] ++ baseC) _ := Sep.alloc T0 (.cells #[.int .i64 0, .int .i64 0, .string ⟨#[]⟩] 33)
        try simp only [size_drew, World.size_alloc] at T119
        clear hH
        refine hK.out _ _ (KbaseC.out _ [_] T119) (fun hH => ?_)
        clear hK K
        refine readyT [2, 4, 10] ?_
        refine consT (fun K hK => ?_) (consT (fun K hK => ?_) (consT (fun K hK => ?_) AllReadyH.nil))
        · go_simp
          have T120 : Sep w ([refB _ 3, zeroB _] ++ baseC) _ := Sep.alloc T119 (.cells #[.int .i64 4, .int .i64 3, .string ⟨#[]⟩] 33)
          try simp only [size_drew, World.size_alloc] at T120
          clear hH
          refine hK.out _ _ (KbaseC.out _ [_, _] T120) (fun hH => ?_)
          clear hK K
          refine readyT [4, 10] ?_
          refine consT (fun K hK => ?_) (consT (fun K hK => ?_) AllReadyH.nil)
          · go_simp
            go_wp2_with (go_at_call 19; refine (KM.out _ [_, _] T120).mono ?_; rintro e w121 ⟨rfl, T121⟩)
            clear hH
            refine hK.out _ _ (KbaseD.out _ [_, _] T121) (fun hH => ?_)
            clear hK K
            refine readyT [5, 10] ?_
            refine consT (fun K hK => ?_) (consT (fun K hK => ?_) AllReadyH.nil)
            · go_simp
              go_wp2_with (go_at_call 28; refine (KC.out _ [_, _] _ 0 rfl T121).mono ?_; rintro e w122 ⟨rfl, T122⟩)
              clear hH
              refine hK.out _ _ (KbaseE.out _ [_, _] T122) (fun hH => ?_)
              clear hK K
              refine takeT 6 hH (hy := .inl ⟨by rfl, by (intro w hSw; try obtain ⟨u0, u1, u2⟩ := hSw); (go_simp; try rfl)⟩) (h := ?_)
              simp only [Act.put, List.setIfInBounds_toArray, List.set_cons_zero, List.set_cons_succ]
              refine takeT 7 hH (hy := .inl ⟨by rfl, by (intro w hSw; try obtain ⟨u0, u1, u2⟩ := hSw); (go_simp; try rfl)⟩) (h := ?_)
              simp only [Act.put, List.setIfInBounds_toArray, List.set_cons_zero, List.set_cons_succ]
              refine takeT 8 hH (hy := .inl ⟨by rfl, by (intro w hSw; try obtain ⟨u0, u1, u2⟩ := hSw); (go_simp; try rfl)⟩) (h := ?_)
              simp only [Act.put, List.setIfInBounds_toArray, List.set_cons_zero, List.set_cons_succ]
              refine readyT [10] ?_
              refine consT (fun K hK => ?_) AllReadyH.nil
              go_simp
              have T123 : Sep w ([excB _ ⟨#[]⟩, refB _ 3, zeroB _] ++ baseE) _ := Sep.alloc T122 (.cells #[.string ⟨#[]⟩, .int .i64 0, .int .i64 0, .string ⟨#[]⟩, .bool false] 45)
              try simp only [size_drew, World.size_alloc] at T123
              clear hH
              refine hK.out _ _ (KbaseE.out _ [_, _, _] T123) (fun hH => ?_)
              clear hK K
              refine readyT [11] ?_
              refine consT (fun K hK => ?_) AllReadyH.nil
              have hz := T123.box 2 rfl
              have z0 := cellAt hz 0 (v := .int .i64 0) rfl
              have z1 := cellAt hz 1 (v := .int .i64 0) rfl
              have z2 := cellAt hz 2 (v := .string ⟨#[]⟩) rfl
              have z3 := frozenAt hz 0
              have z4 := frozenAt hz 1
              have z5 := frozenAt hz 2
              go_simp
              clear hz z0 z1 z2 z3 z4 z5
              clear hH
              have T124 : Sep w ([excB _ ⟨#[]⟩, refB _ 3, refB _ 5] ++ baseE) _ := (Sep.setBox (cs := #[.int .i64 4, .int .i64 5, .string ⟨#[]⟩]) (t := 33) (Sep.setBox (cs := #[.int .i64 4, .int .i64 0, .string ⟨#[]⟩]) (t := 33) (Sep.setBox (cs := #[.int .i64 0, .int .i64 0, .string ⟨#[]⟩]) (t := 33) T123 2 rfl 0 (.int .i64 4)) 2 rfl 1 (.int .i64 5)) 2 rfl 2 (.string ⟨#[]⟩))
              try simp only [size_drew, World.size_alloc] at T124
              refine hK.out _ _ (KbaseE.out _ [_, _, _] T124) (fun hH => ?_)
              clear hK K
              refine readyT [12] ?_
              refine consT (fun K hK => ?_) AllReadyH.nil
              have hz := T124.box 0 rfl
              have z0 := cellAt hz 0 (v := .string ⟨#[]⟩) rfl
              have z1 := cellAt hz 1 (v := .int .i64 0) rfl
              have z2 := cellAt hz 2 (v := .int .i64 0) rfl
              have z3 := cellAt hz 3 (v := .string ⟨#[]⟩) rfl
              have z4 := cellAt hz 4 (v := .bool false) rfl
              have z5 := frozenAt hz 0
              have z6 := frozenAt hz 1
              have z7 := frozenAt hz 2
              have z8 := frozenAt hz 3
              have z9 := frozenAt hz 4
              go_simp
              clear hz z0 z1 z2 z3 z4 z5 z6 z7 z8 z9
              clear hH
              have T125 : Sep w ([excB _ ⟨#[]⟩, refB _ 3, refB _ 5] ++ baseE) _ := (Sep.setBox (cs := #[.string ⟨#[]⟩, .int .i64 0, .int .i64 0, .string ⟨#[]⟩, .bool false]) (t := 45) (Sep.setBox (cs := #[.string ⟨#[]⟩, .int .i64 0, .int .i64 0, .string ⟨#[]⟩, .bool false]) (t := 45) (Sep.setBox (cs := #[.string ⟨#[]⟩, .int .i64 0, .int .i64 0, .string ⟨#[]⟩, .bool false]) (t := 45) (Sep.setBox (cs := #[.string ⟨#[]⟩, .int .i64 0, .int .i64 0, .string ⟨#[]⟩, .bool false]) (t := 45) (Sep.setBox (cs := #[.string ⟨#[]⟩, .int .i64 0, .int .i64 0, .string ⟨#[]⟩, .bool false]) (t := 45) T124 0 rfl 0 (.string ⟨#[]⟩)) 0 rfl 1 (.int .i64 0)) 0 rfl 2 (.int .i64 0)) 0 rfl 3 (.string ⟨#[]⟩)) 0 rfl 4 (.bool false))
              try simp only [size_drew, World.size_alloc] at T125
              refine hK.out _ _ (KbaseE.out _ [_, _, _] T125) (fun hH => ?_)
              clear hK K
              refine wpAnyH_done (by kernel_rfl) ?_ _
              as_aux_lemma =>
                go_wp2_with fail
                go_meet
                exact ⟨[_, _, _], 0, 2, _, _, rfl, rfl, by decide, rfl, rfl, T125⟩
            · go_simp
              have T126 : Sep w ([excB _ ⟨#[]⟩, refB _ 3, zeroB _] ++ baseD) _ := Sep.alloc T121 (.cells #[.string ⟨#[]⟩, .int .i64 0, .int .i64 0, .string ⟨#[]⟩, .bool false] 45)
              try simp only [size_drew, World.size_alloc] at T126
              clear hH
              refine hK.out _ _ (KbaseD.out _ [_, _, _] T126) (fun hH => ?_)
              clear hK K
              refine readyT [5] ?_
              refine consT (fun K hK => ?_) AllReadyH.nil
              go_simp
              go_wp2_with (go_at_call 28; refine (KC.out _ [_, _, _] _ 1 rfl T126).mono ?_; rintro e w127 ⟨rfl, T127⟩)
              clear hH
              refine hK.out _ _ (KbaseE.out _ [_, _, _] T127) (fun hH => ?_)
              clear hK K
              refine takeT 6 hH (hy := .inl ⟨by rfl, by (intro w hSw; try obtain ⟨u0, u1, u2⟩ := hSw); (go_simp; try rfl)⟩) (h := ?_)
              simp only [Act.put, List.setIfInBounds_toArray, List.set_cons_zero, List.set_cons_succ]
              refine takeT 7 hH (hy := .inl ⟨by rfl, by (intro w hSw; try obtain ⟨u0, u1, u2⟩ := hSw); (go_simp; try rfl)⟩) (h := ?_)
              simp only [Act.put, List.setIfInBounds_toArray, List.set_cons_zero, List.set_cons_succ]
              refine takeT 8 hH (hy := .inl ⟨by rfl, by (intro w hSw; try obtain ⟨u0, u1, u2⟩ := hSw); (go_simp; try rfl)⟩) (h := ?_)
              simp only [Act.put, List.setIfInBounds_toArray, List.set_cons_zero, List.set_cons_succ]
              refine readyT [11] ?_
              refine consT (fun K hK => ?_) AllReadyH.nil
              have hz := T127.box 2 rfl
              have z0 := cellAt hz 0 (v := .int .i64 0) rfl
              have z1 := cellAt hz 1 (v := .int .i64 0) rfl
              have z2 := cellAt hz 2 (v := .string ⟨#[]⟩) rfl
              have z3 := frozenAt hz 0
              have z4 := frozenAt hz 1
              have z5 := frozenAt hz 2
              go_simp
              clear hz z0 z1 z2 z3 z4 z5
              clear hH
              have T128 : Sep w ([excB _ ⟨#[]⟩, refB _ 3, refB _ 5] ++ baseE) _ := (Sep.setBox (cs := #[.int .i64 4, .int .i64 5, .string ⟨#[]⟩]) (t := 33) (Sep.setBox (cs := #[.int .i64 4, .int .i64 0, .string ⟨#[]⟩]) (t := 33) (Sep.setBox (cs := #[.int .i64 0, .int .i64 0, .string ⟨#[]⟩]) (t := 33) T127 2 rfl 0 (.int .i64 4)) 2 rfl 1 (.int .i64 5)) 2 rfl 2 (.string ⟨#[]⟩))
              try simp only [size_drew, World.size_alloc] at T128
              refine hK.out _ _ (KbaseE.out _ [_, _, _] T128) (fun hH => ?_)
              clear hK K
              refine readyT [12] ?_
              refine consT (fun K hK => ?_) AllReadyH.nil
              have hz := T128.box 0 rfl
              have z0 := cellAt hz 0 (v := .string ⟨#[]⟩) rfl
              have z1 := cellAt hz 1 (v := .int .i64 0) rfl
              have z2 := cellAt hz 2 (v := .int .i64 0) rfl
              have z3 := cellAt hz 3 (v := .string ⟨#[]⟩) rfl
              have z4 := cellAt hz 4 (v := .bool false) rfl
              have z5 := frozenAt hz 0
              have z6 := frozenAt hz 1
              have z7 := frozenAt hz 2
              have z8 := frozenAt hz 3
              have z9 := frozenAt hz 4
              go_simp
              clear hz z0 z1 z2 z3 z4 z5 z6 z7 z8 z9
              clear hH
              have T129 : Sep w ([excB _ ⟨#[]⟩, refB _ 3, refB _ 5] ++ baseE) _ := (Sep.setBox (cs := #[.string ⟨#[]⟩, .int .i64 0, .int .i64 0, .string ⟨#[]⟩, .bool false]) (t := 45) (Sep.setBox (cs := #[.string ⟨#[]⟩, .int .i64 0, .int .i64 0, .string ⟨#[]⟩, .bool false]) (t := 45) (Sep.setBox (cs := #[.string ⟨#[]⟩, .int .i64 0, .int .i64 0, .string ⟨#[]⟩, .bool false]) (t := 45) (Sep.setBox (cs := #[.string ⟨#[]⟩, .int .i64 0, .int .i64 0, .string ⟨#[]⟩, .bool false]) (t := 45) (Sep.setBox (cs := #[.string ⟨#[]⟩, .int .i64 0, .int .i64 0, .string ⟨#[]⟩, .bool false]) (t := 45) T128 0 rfl 0 (.string ⟨#[]⟩)) 0 rfl 1 (.int .i64 0)) 0 rfl 2 (.int .i64 0)) 0 rfl 3 (.string ⟨#[]⟩)) 0 rfl 4 (.bool false))
              try simp only [size_drew, World.size_alloc] at T129
              refine hK.out _ _ (KbaseE.out _ [_, _, _] T129) (fun hH => ?_)
              clear hK K
              refine wpAnyH_done (by kernel_rfl) ?_ _
              as_aux_lemma =>
                go_wp2_with fail
                go_meet
                exact ⟨[_, _, _], 0, 2, _, _, rfl, rfl, by decide, rfl, rfl, T129⟩
          · go_simp
            have T130 : Sep w ([excB _ ⟨#[]⟩, refB _ 3, zeroB _] ++ baseC) _ := Sep.alloc T120 (.cells #[.string ⟨#[]⟩, .int .i64 0, .int .i64 0, .string ⟨#[]⟩, .bool false] 45)
            try simp only [size_drew, World.size_alloc] at T130
            clear hH
            refine hK.out _ _ (KbaseC.out _ [_, _, _] T130) (fun hH => ?_)
            clear hK K
            refine readyT [4] ?_
            refine consT (fun K hK => ?_) AllReadyH.nil
            go_simp
            go_wp2_with (go_at_call 19; refine (KM.out _ [_, _, _] T130).mono ?_; rintro e w131 ⟨rfl, T131⟩)
            clear hH
            refine hK.out _ _ (KbaseD.out _ [_, _, _] T131) (fun hH => ?_)
            clear hK K
            refine readyT [5] ?_
            refine consT (fun K hK => ?_) AllReadyH.nil
            go_simp
            go_wp2_with (go_at_call 28; refine (KC.out _ [_, _, _] _ 1 rfl T131).mono ?_; rintro e w132 ⟨rfl, T132⟩)
            clear hH
            refine hK.out _ _ (KbaseE.out _ [_, _, _] T132) (fun hH => ?_)
            clear hK K
            refine takeT 6 hH (hy := .inl ⟨by rfl, by (intro w hSw; try obtain ⟨u0, u1, u2⟩ := hSw); (go_simp; try rfl)⟩) (h := ?_)
            simp only [Act.put, List.setIfInBounds_toArray, List.set_cons_zero, List.set_cons_succ]
            refine takeT 7 hH (hy := .inl ⟨by rfl, by (intro w hSw; try obtain ⟨u0, u1, u2⟩ := hSw); (go_simp; try rfl)⟩) (h := ?_)
            simp only [Act.put, List.setIfInBounds_toArray, List.set_cons_zero, List.set_cons_succ]
            refine takeT 8 hH (hy := .inl ⟨by rfl, by (intro w hSw; try obtain ⟨u0, u1, u2⟩ := hSw); (go_simp; try rfl)⟩) (h := ?_)
            simp only [Act.put, List.setIfInBounds_toArray, List.set_cons_zero, List.set_cons_succ]
            refine readyT [11] ?_
            refine consT (fun K hK => ?_) AllReadyH.nil
            have hz := T132.box 2 rfl
            have z0 := cellAt hz 0 (v := .int .i64 0) rfl
            have z1 := cellAt hz 1 (v := .int .i64 0) rfl
            have z2 := cellAt hz 2 (v := .string ⟨#[]⟩) rfl
            have z3 := frozenAt hz 0
            have z4 := frozenAt hz 1
            have z5 := frozenAt hz 2
            go_simp
            clear hz z0 z1 z2 z3 z4 z5
            clear hH
            have T133 : Sep w ([excB _ ⟨#[]⟩, refB _ 3, refB _ 5] ++ baseE) _ := (Sep.setBox (cs := #[.int .i64 4, .int .i64 5, .string ⟨#[]⟩]) (t := 33) (Sep.setBox (cs := #[.int .i64 4, .int .i64 0, .string ⟨#[]⟩]) (t := 33) (Sep.setBox (cs := #[.int .i64 0, .int .i64 0, .string ⟨#[]⟩]) (t := 33) T132 2 rfl 0 (.int .i64 4)) 2 rfl 1 (.int .i64 5)) 2 rfl 2 (.string ⟨#[]⟩))
            try simp only [size_drew, World.size_alloc] at T133
            refine hK.out _ _ (KbaseE.out _ [_, _, _] T133) (fun hH => ?_)
            clear hK K
            refine readyT [12] ?_
            refine consT (fun K hK => ?_) AllReadyH.nil
            have hz := T133.box 0 rfl
            have z0 := cellAt hz 0 (v := .string ⟨#[]⟩) rfl
            have z1 := cellAt hz 1 (v := .int .i64 0) rfl
            have z2 := cellAt hz 2 (v := .int .i64 0) rfl
            have z3 := cellAt hz 3 (v := .string ⟨#[]⟩) rfl
            have z4 := cellAt hz 4 (v := .bool false) rfl
            have z5 := frozenAt hz 0
            have z6 := frozenAt hz 1
            have z7 := frozenAt hz 2
            have z8 := frozenAt hz 3
            have z9 := frozenAt hz 4
            go_simp
            clear hz z0 z1 z2 z3 z4 z5 z6 z7 z8 z9
            clear hH
            have T134 : Sep w ([excB _ ⟨#[]⟩, refB _ 3, refB _ 5] ++ baseE) _ := (Sep.setBox (cs := #[.string ⟨#[]⟩, .int .i64 0, .int .i64 0, .string ⟨#[]⟩, .bool false]) (t := 45) (Sep.setBox (cs := #[.string ⟨#[]⟩, .int .i64 0, .int .i64 0, .string ⟨#[]⟩, .bool false]) (t := 45) (Sep.setBox (cs := #[.string ⟨#[]⟩, .int .i64 0, .int .i64 0, .string ⟨#[]⟩, .bool false]) (t := 45) (Sep.setBox (cs := #[.string ⟨#[]⟩, .int .i64 0, .int .i64 0, .string ⟨#[]⟩, .bool false]) (t := 45) (Sep.setBox (cs := #[.string ⟨#[]⟩, .int .i64 0, .int .i64 0, .string ⟨#[]⟩, .bool false]) (t := 45) T133 0 rfl 0 (.string ⟨#[]⟩)) 0 rfl 1 (.int .i64 0)) 0 rfl 2 (.int .i64 0)) 0 rfl 3 (.string ⟨#[]⟩)) 0 rfl 4 (.bool false))
            try simp only [size_drew, World.size_alloc] at T134
            refine hK.out _ _ (KbaseE.out _ [_, _, _] T134) (fun hH => ?_)
            clear hK K
            refine wpAnyH_done (by kernel_rfl) ?_ _
            as_aux_lemma =>
              go_wp2_with fail
              go_meet
              exact ⟨[_, _, _], 0, 2, _, _, rfl, rfl, by decide, rfl, rfl, T134⟩
        · go_simp
          go_wp2_with (go_at_call 19; refine (KM.out _ [_] T119).mono ?_; rintro e w135 ⟨rfl, T135⟩)
          clear hH
          refine hK.out _ _ (KbaseD.out _ [_] T135) (fun hH => ?_)
          clear hK K
          refine readyT [2, 10] ?_
          refine consT (fun K hK => ?_) (consT (fun K hK => ?_) AllReadyH.nil)
          · go_simp
            have T136 : Sep w ([refB _ 3, zeroB _] ++ baseD) _ := Sep.alloc T135 (.cells #[.int .i64 4, .int .i64 3, .string ⟨#[]⟩] 33)
            try simp only [size_drew, World.size_alloc] at T136
            clear hH
            refine hK.out _ _ (KbaseD.out _ [_, _] T136) (fun hH => ?_)
            clear hK K
            refine readyT [5, 10] ?_
            refine consT (fun K hK => ?_) (consT (fun K hK => ?_) AllReadyH.nil)
            · go_simp
              go_wp2_with (go_at_call 28; refine (KC.out _ [_, _] _ 0 rfl T136).mono ?_; rintro e w137 ⟨rfl, T137⟩)
              clear hH
              refine hK.out _ _ (KbaseE.out _ [_, _] T137) (fun hH => ?_)
              clear hK K
              refine takeT 6 hH (hy := .inl ⟨by rfl, by (intro w hSw; try obtain ⟨u0, u1, u2⟩ := hSw); (go_simp; try rfl)⟩) (h := ?_)
              simp only [Act.put, List.setIfInBounds_toArray, List.set_cons_zero, List.set_cons_succ]
              refine takeT 7 hH (hy := .inl ⟨by rfl, by (intro w hSw; try obtain ⟨u0, u1, u2⟩ := hSw); (go_simp; try rfl)⟩) (h := ?_)
              simp only [Act.put, List.setIfInBounds_toArray, List.set_cons_zero, List.set_cons_succ]
              refine takeT 8 hH (hy := .inl ⟨by rfl, by (intro w hSw; try obtain ⟨u0, u1, u2⟩ := hSw); (go_simp; try rfl)⟩) (h := ?_)
              simp only [Act.put, List.setIfInBounds_toArray, List.set_cons_zero, List.set_cons_succ]
              refine readyT [10] ?_
              refine consT (fun K hK => ?_) AllReadyH.nil
              go_simp
              have T138 : Sep w ([excB _ ⟨#[]⟩, refB _ 3, zeroB _] ++ baseE) _ := Sep.alloc T137 (.cells #[.string ⟨#[]⟩, .int .i64 0, .int .i64 0, .string ⟨#[]⟩, .bool false] 45)
              try simp only [size_drew, World.size_alloc] at T138
              clear hH
              refine hK.out _ _ (KbaseE.out _ [_, _, _] T138) (fun hH => ?_)
              clear hK K
              refine readyT [11] ?_
              refine consT (fun K hK => ?_) AllReadyH.nil
              have hz := T138.box 2 rfl
              have z0 := cellAt hz 0 (v := .int .i64 0) rfl
              have z1 := cellAt hz 1 (v := .int .i64 0) rfl
              have z2 := cellAt hz 2 (v := .string ⟨#[]⟩) rfl
              have z3 := frozenAt hz 0
              have z4 := frozenAt hz 1
              have z5 := frozenAt hz 2
              go_simp
              clear hz z0 z1 z2 z3 z4 z5
              clear hH
              have T139 : Sep w ([excB _ ⟨#[]⟩, refB _ 3, refB _ 5] ++ baseE) _ := (Sep.setBox (cs := #[.int .i64 4, .int .i64 5, .string ⟨#[]⟩]) (t := 33) (Sep.setBox (cs := #[.int .i64 4, .int .i64 0, .string ⟨#[]⟩]) (t := 33) (Sep.setBox (cs := #[.int .i64 0, .int .i64 0, .string ⟨#[]⟩]) (t := 33) T138 2 rfl 0 (.int .i64 4)) 2 rfl 1 (.int .i64 5)) 2 rfl 2 (.string ⟨#[]⟩))
              try simp only [size_drew, World.size_alloc] at T139
              refine hK.out _ _ (KbaseE.out _ [_, _, _] T139) (fun hH => ?_)
              clear hK K
              refine readyT [12] ?_
              refine consT (fun K hK => ?_) AllReadyH.nil
              have hz := T139.box 0 rfl
              have z0 := cellAt hz 0 (v := .string ⟨#[]⟩) rfl
              have z1 := cellAt hz 1 (v := .int .i64 0) rfl
              have z2 := cellAt hz 2 (v := .int .i64 0) rfl
              have z3 := cellAt hz 3 (v := .string ⟨#[]⟩) rfl
              have z4 := cellAt hz 4 (v := .bool false) rfl
              have z5 := frozenAt hz 0
              have z6 := frozenAt hz 1
              have z7 := frozenAt hz 2
              have z8 := frozenAt hz 3
              have z9 := frozenAt hz 4
              go_simp
              clear hz z0 z1 z2 z3 z4 z5 z6 z7 z8 z9
              clear hH
              have T140 : Sep w ([excB _ ⟨#[]⟩, refB _ 3, refB _ 5] ++ baseE) _ := (Sep.setBox (cs := #[.string ⟨#[]⟩, .int .i64 0, .int .i64 0, .string ⟨#[]⟩, .bool false]) (t := 45) (Sep.setBox (cs := #[.string ⟨#[]⟩, .int .i64 0, .int .i64 0, .string ⟨#[]⟩, .bool false]) (t := 45) (Sep.setBox (cs := #[.string ⟨#[]⟩, .int .i64 0, .int .i64 0, .string ⟨#[]⟩, .bool false]) (t := 45) (Sep.setBox (cs := #[.string ⟨#[]⟩, .int .i64 0, .int .i64 0, .string ⟨#[]⟩, .bool false]) (t := 45) (Sep.setBox (cs := #[.string ⟨#[]⟩, .int .i64 0, .int .i64 0, .string ⟨#[]⟩, .bool false]) (t := 45) T139 0 rfl 0 (.string ⟨#[]⟩)) 0 rfl 1 (.int .i64 0)) 0 rfl 2 (.int .i64 0)) 0 rfl 3 (.string ⟨#[]⟩)) 0 rfl 4 (.bool false))
              try simp only [size_drew, World.size_alloc] at T140
              refine hK.out _ _ (KbaseE.out _ [_, _, _] T140) (fun hH => ?_)
              clear hK K
              refine wpAnyH_done (by kernel_rfl) ?_ _
              as_aux_lemma =>
                go_wp2_with fail
                go_meet
                exact ⟨[_, _, _], 0, 2, _, _, rfl, rfl, by decide, rfl, rfl, T140⟩
            · go_simp
              have T141 : Sep w ([excB _ ⟨#[]⟩, refB _ 3, zeroB _] ++ baseD) _ := Sep.alloc T136 (.cells #[.string ⟨#[]⟩, .int .i64 0, .int .i64 0, .string ⟨#[]⟩, .bool false] 45)
              try simp only [size_drew, World.size_alloc] at T141
              clear hH
              refine hK.out _ _ (KbaseD.out _ [_, _, _] T141) (fun hH => ?_)
              clear hK K
              refine readyT [5] ?_
              refine consT (fun K hK => ?_) AllReadyH.nil
              go_simp
              go_wp2_with (go_at_call 28; refine (KC.out _ [_, _, _] _ 1 rfl T141).mono ?_; rintro e w142 ⟨rfl, T142⟩)
              clear hH
              refine hK.out _ _ (KbaseE.out _ [_, _, _] T142) (fun hH => ?_)
              clear hK K
              refine takeT 6 hH (hy := .inl ⟨by rfl, by (intro w hSw; try obtain ⟨u0, u1, u2⟩ := hSw); (go_simp; try rfl)⟩) (h := ?_)
              simp only [Act.put, List.setIfInBounds_toArray, List.set_cons_zero, List.set_cons_succ]
              refine takeT 7 hH (hy := .inl ⟨by rfl, by (intro w hSw; try obtain ⟨u0, u1, u2⟩ := hSw); (go_simp; try rfl)⟩) (h := ?_)
              simp only [Act.put, List.setIfInBounds_toArray, List.set_cons_zero, List.set_cons_succ]
              refine takeT 8 hH (hy := .inl ⟨by rfl, by (intro w hSw; try obtain ⟨u0, u1, u2⟩ := hSw); (go_simp; try rfl)⟩) (h := ?_)
              simp only [Act.put, List.setIfInBounds_toArray, List.set_cons_zero, List.set_cons_succ]
              refine readyT [11] ?_
              refine consT (fun K hK => ?_) AllReadyH.nil
              have hz := T142.box 2 rfl
              have z0 := cellAt hz 0 (v := .int .i64 0) rfl
              have z1 := cellAt hz 1 (v := .int .i64 0) rfl
              have z2 := cellAt hz 2 (v := .string ⟨#[]⟩) rfl
              have z3 := frozenAt hz 0
              have z4 := frozenAt hz 1
              have z5 := frozenAt hz 2
              go_simp
              clear hz z0 z1 z2 z3 z4 z5
              clear hH
              have T143 : Sep w ([excB _ ⟨#[]⟩, refB _ 3, refB _ 5] ++ baseE) _ := (Sep.setBox (cs := #[.int .i64 4, .int .i64 5, .string ⟨#[]⟩]) (t := 33) (Sep.setBox (cs := #[.int .i64 4, .int .i64 0, .string ⟨#[]⟩]) (t := 33) (Sep.setBox (cs := #[.int .i64 0, .int .i64 0, .string ⟨#[]⟩]) (t := 33) T142 2 rfl 0 (.int .i64 4)) 2 rfl 1 (.int .i64 5)) 2 rfl 2 (.string ⟨#[]⟩))
              try simp only [size_drew, World.size_alloc] at T143
              refine hK.out _ _ (KbaseE.out _ [_, _, _] T143) (fun hH => ?_)
              clear hK K
              refine readyT [12] ?_
              refine consT (fun K hK => ?_) AllReadyH.nil
              have hz := T143.box 0 rfl
              have z0 := cellAt hz 0 (v := .string ⟨#[]⟩) rfl
              have z1 := cellAt hz 1 (v := .int .i64 0) rfl
              have z2 := cellAt hz 2 (v := .int .i64 0) rfl
              have z3 := cellAt hz 3 (v := .string ⟨#[]⟩) rfl
              have z4 := cellAt hz 4 (v := .bool false) rfl
              have z5 := frozenAt hz 0
              have z6 := frozenAt hz 1
              have z7 := frozenAt hz 2
              have z8 := frozenAt hz 3
              have z9 := frozenAt hz 4
              go_simp
              clear hz z0 z1 z2 z3 z4 z5 z6 z7 z8 z9
              clear hH
              have T144 : Sep w ([excB _ ⟨#[]⟩, refB _ 3, refB _ 5] ++ baseE) _ := (Sep.setBox (cs := #[.string ⟨#[]⟩, .int .i64 0, .int .i64 0, .string ⟨#[]⟩, .bool false]) (t := 45) (Sep.setBox (cs := #[.string ⟨#[]⟩, .int .i64 0, .int .i64 0, .string ⟨#[]⟩, .bool false]) (t := 45) (Sep.setBox (cs := #[.string ⟨#[]⟩, .int .i64 0, .int .i64 0, .string ⟨#[]⟩, .bool false]) (t := 45) (Sep.setBox (cs := #[.string ⟨#[]⟩, .int .i64 0, .int .i64 0, .string ⟨#[]⟩, .bool false]) (t := 45) (Sep.setBox (cs := #[.string ⟨#[]⟩, .int .i64 0, .int .i64 0, .string ⟨#[]⟩, .bool false]) (t := 45) T143 0 rfl 0 (.string ⟨#[]⟩)) 0 rfl 1 (.int .i64 0)) 0 rfl 2 (.int .i64 0)) 0 rfl 3 (.string ⟨#[]⟩)) 0 rfl 4 (.bool false))
              try simp only [size_drew, World.size_alloc] at T144
              refine hK.out _ _ (KbaseE.out _ [_, _, _] T144) (fun hH => ?_)
              clear hK K
              refine wpAnyH_done (by kernel_rfl) ?_ _
              as_aux_lemma =>
                go_wp2_with fail
                go_meet
                exact ⟨[_, _, _], 0, 2, _, _, rfl, rfl, by decide, rfl, rfl, T144⟩
          · go_simp
            have T145 : Sep w ([excB _ ⟨#[]⟩, zeroB _] ++ baseD) _ := Sep.alloc T135 (.cells #[.string ⟨#[]⟩, .int .i64 0, .int .i64 0, .string ⟨#[]⟩, .bool false] 45)
            try simp only [size_drew, World.size_alloc] at T145
            clear hH
            refine hK.out _ _ (KbaseD.out _ [_, _] T145) (fun hH => ?_)
            clear hK K
            refine readyT [2] ?_
            refine consT (fun K hK => ?_) AllReadyH.nil
            go_simp
            have T146 : Sep w ([refB _ 3, excB _ ⟨#[]⟩, zeroB _] ++ baseD) _ := Sep.alloc T145 (.cells #[.int .i64 4, .int .i64 3, .string ⟨#[]⟩] 33)
            try simp only [size_drew, World.size_alloc] at T146
            clear hH
            refine hK.out _ _ (KbaseD.out _ [_, _, _] T146) (fun hH => ?_)
            clear hK K
            refine readyT [5] ?_
            refine consT (fun K hK => ?_) AllReadyH.nil
            go_simp
            go_wp2_with (go_at_call 28; refine (KC.out _ [_, _, _] _ 0 rfl T146).mono ?_; rintro e w147 ⟨rfl, T147⟩)
            clear hH
            refine hK.out _ _ (KbaseE.out _ [_, _, _] T147) (fun hH => ?_)
            clear hK K
            refine takeT 6 hH (hy := .inl ⟨by rfl, by (intro w hSw; try obtain ⟨u0, u1, u2⟩ := hSw); (go_simp; try rfl)⟩) (h := ?_)
            simp only [Act.put, List.setIfInBounds_toArray, List.set_cons_zero, List.set_cons_succ]
            refine takeT 7 hH (hy := .inl ⟨by rfl, by (intro w hSw; try obtain ⟨u0, u1, u2⟩ := hSw); (go_simp; try rfl)⟩) (h := ?_)
            simp only [Act.put, List.setIfInBounds_toArray, List.set_cons_zero, List.set_cons_succ]
            refine takeT 8 hH (hy := .inl ⟨by rfl, by (intro w hSw; try obtain ⟨u0, u1, u2⟩ := hSw); (go_simp; try rfl)⟩) (h := ?_)
            simp only [Act.put, List.setIfInBounds_toArray, List.set_cons_zero, List.set_cons_succ]
            refine readyT [11] ?_
            refine consT (fun K hK => ?_) AllReadyH.nil
            have hz := T147.box 2 rfl
            have z0 := cellAt hz 0 (v := .int .i64 0) rfl
            have z1 := cellAt hz 1 (v := .int .i64 0) rfl
            have z2 := cellAt hz 2 (v := .string ⟨#[]⟩) rfl
            have z3 := frozenAt hz 0
            have z4 := frozenAt hz 1
            have z5 := frozenAt hz 2
            go_simp
            clear hz z0 z1 z2 z3 z4 z5
            clear hH
            have T148 : Sep w ([refB _ 3, excB _ ⟨#[]⟩, refB _ 5] ++ baseE) _ := (Sep.setBox (cs := #[.int .i64 4, .int .i64 5, .string ⟨#[]⟩]) (t := 33) (Sep.setBox (cs := #[.int .i64 4, .int .i64 0, .string ⟨#[]⟩]) (t := 33) (Sep.setBox (cs := #[.int .i64 0, .int .i64 0, .string ⟨#[]⟩]) (t := 33) T147 2 rfl 0 (.int .i64 4)) 2 rfl 1 (.int .i64 5)) 2 rfl 2 (.string ⟨#[]⟩))
            try simp only [size_drew, World.size_alloc] at T148
            refine hK.out _ _ (KbaseE.out _ [_, _, _] T148) (fun hH => ?_)
            clear hK K
            refine readyT [12] ?_
            refine consT (fun K hK => ?_) AllReadyH.nil
            have hz := T148.box 1 rfl
            have z0 := cellAt hz 0 (v := .string ⟨#[]⟩) rfl
            have z1 := cellAt hz 1 (v := .int .i64 0) rfl
            have z2 := cellAt hz 2 (v := .int .i64 0) rfl
            have z3 := cellAt hz 3 (v := .string ⟨#[]⟩) rfl
            have z4 := cellAt hz 4 (v := .bool false) rfl
            have z5 := frozenAt hz 0
            have z6 := frozenAt hz 1
            have z7 := frozenAt hz 2
            have z8 := frozenAt hz 3
            have z9 := frozenAt hz 4
            go_simp
            clear hz z0 z1 z2 z3 z4 z5 z6 z7 z8 z9
            clear hH
            have T149 : Sep w ([refB _ 3, excB _ ⟨#[]⟩, refB _ 5] ++ baseE) _ := (Sep.setBox (cs := #[.string ⟨#[]⟩, .int .i64 0, .int .i64 0, .string ⟨#[]⟩, .bool false]) (t := 45) (Sep.setBox (cs := #[.string ⟨#[]⟩, .int .i64 0, .int .i64 0, .string ⟨#[]⟩, .bool false]) (t := 45) (Sep.setBox (cs := #[.string ⟨#[]⟩, .int .i64 0, .int .i64 0, .string ⟨#[]⟩, .bool false]) (t := 45) (Sep.setBox (cs := #[.string ⟨#[]⟩, .int .i64 0, .int .i64 0, .string ⟨#[]⟩, .bool false]) (t := 45) (Sep.setBox (cs := #[.string ⟨#[]⟩, .int .i64 0, .int .i64 0, .string ⟨#[]⟩, .bool false]) (t := 45) T148 1 rfl 0 (.string ⟨#[]⟩)) 1 rfl 1 (.int .i64 0)) 1 rfl 2 (.int .i64 0)) 1 rfl 3 (.string ⟨#[]⟩)) 1 rfl 4 (.bool false))
            try simp only [size_drew, World.size_alloc] at T149
            refine hK.out _ _ (KbaseE.out _ [_, _, _] T149) (fun hH => ?_)
            clear hK K
            refine wpAnyH_done (by kernel_rfl) ?_ _
            as_aux_lemma =>
              go_wp2_with fail
              go_meet
              exact ⟨[_, _, _], 1, 2, _, _, rfl, rfl, by decide, rfl, rfl, T149⟩
        · go_simp
          have T150 : Sep w ([excB _ ⟨#[]⟩, zeroB _] ++ baseC) _ := Sep.alloc T119 (.cells #[.string ⟨#[]⟩, .int .i64 0, .int .i64 0, .string ⟨#[]⟩, .bool false] 45)
          try simp only [size_drew, World.size_alloc] at T150
          clear hH
          refine hK.out _ _ (KbaseC.out _ [_, _] T150) (fun hH => ?_)
          clear hK K
          refine readyT [2, 4] ?_
          refine consT (fun K hK => ?_) (consT (fun K hK => ?_) AllReadyH.nil)
          · go_simp
            have T151 : Sep w ([refB _ 3, excB _ ⟨#[]⟩, zeroB _] ++ baseC) _ := Sep.alloc T150 (.cells #[.int .i64 4, .int .i64 3, .string ⟨#[]⟩] 33)
            try simp only [size_drew, World.size_alloc] at T151
            clear hH
            refine hK.out _ _ (KbaseC.out _ [_, _, _] T151) (fun hH => ?_)
            clear hK K
            refine readyT [4] ?_
            refine consT (fun K hK => ?_) AllReadyH.nil
            go_simp
            go_wp2_with (go_at_call 19; refine (KM.out _ [_, _, _] T151).mono ?_; rintro e w152 ⟨rfl, T152⟩)
            clear hH
            refine hK.out _ _ (KbaseD.out _ [_, _, _] T152) (fun hH => ?_)
            clear hK K
            refine readyT [5] ?_
            refine consT (fun K hK => ?_) AllReadyH.nil
            go_simp
            go_wp2_with (go_at_call 28; refine (KC.out _ [_, _, _] _ 0 rfl T152).mono ?_; rintro e w153 ⟨rfl, T153⟩)
            clear hH
            refine hK.out _ _ (KbaseE.out _ [_, _, _] T153) (fun hH => ?_)
            clear hK K
            refine takeT 6 hH (hy := .inl ⟨by rfl, by (intro w hSw; try obtain ⟨u0, u1, u2⟩ := hSw); (go_simp; try rfl)⟩) (h := ?_)
            simp only [Act.put, List.setIfInBounds_toArray, List.set_cons_zero, List.set_cons_succ]
            refine takeT 7 hH (hy := .inl ⟨by rfl, by (intro w hSw; try obtain ⟨u0, u1, u2⟩ := hSw); (go_simp; try rfl)⟩) (h := ?_)
            simp only [Act.put, List.setIfInBounds_toArray, List.set_cons_zero, List.set_cons_succ]
            refine takeT 8 hH (hy := .inl ⟨by rfl, by (intro w hSw; try obtain ⟨u0, u1, u2⟩ := hSw); (go_simp; try rfl)⟩) (h := ?_)
            simp only [Act.put, List.setIfInBounds_toArray, List.set_cons_zero, List.set_cons_succ]
            refine readyT [11] ?_
            refine consT (fun K hK => ?_) AllReadyH.nil
            have hz := T153.box 2 rfl
            have z0 := cellAt hz 0 (v := .int .i64 0) rfl
            have z1 := cellAt hz 1 (v := .int .i64 0) rfl
            have z2 := cellAt hz 2 (v := .string ⟨#[]⟩) rfl
            have z3 := frozenAt hz 0
            have z4 := frozenAt hz 1
            have z5 := frozenAt hz 2
            go_simp
            clear hz z0 z1 z2 z3 z4 z5
            clear hH
            have T154 : Sep w ([refB _ 3, excB _ ⟨#[]⟩, refB _ 5] ++ baseE) _ := (Sep.setBox (cs := #[.int .i64 4, .int .i64 5, .string ⟨#[]⟩]) (t := 33) (Sep.setBox (cs := #[.int .i64 4, .int .i64 0, .string ⟨#[]⟩]) (t := 33) (Sep.setBox (cs := #[.int .i64 0, .int .i64 0, .string ⟨#[]⟩]) (t := 33) T153 2 rfl 0 (.int .i64 4)) 2 rfl 1 (.int .i64 5)) 2 rfl 2 (.string ⟨#[]⟩))
            try simp only [size_drew, World.size_alloc] at T154
            refine hK.out _ _ (KbaseE.out _ [_, _, _] T154) (fun hH => ?_)
            clear hK K
            refine readyT [12] ?_
            refine consT (fun K hK => ?_) AllReadyH.nil
            have hz := T154.box 1 rfl
            have z0 := cellAt hz 0 (v := .string ⟨#[]⟩) rfl
            have z1 := cellAt hz 1 (v := .int .i64 0) rfl
            have z2 := cellAt hz 2 (v := .int .i64 0) rfl
            have z3 := cellAt hz 3 (v := .string ⟨#[]⟩) rfl
            have z4 := cellAt hz 4 (v := .bool false) rfl
            have z5 := frozenAt hz 0
            have z6 := frozenAt hz 1
            have z7 := frozenAt hz 2
            have z8 := frozenAt hz 3
            have z9 := frozenAt hz 4
            go_simp
            clear hz z0 z1 z2 z3 z4 z5 z6 z7 z8 z9
            clear hH
            have T155 : Sep w ([refB _ 3, excB _ ⟨#[]⟩, refB _ 5] ++ baseE) _ := (Sep.setBox (cs := #[.string ⟨#[]⟩, .int .i64 0, .int .i64 0, .string ⟨#[]⟩, .bool false]) (t := 45) (Sep.setBox (cs := #[.string ⟨#[]⟩, .int .i64 0, .int .i64 0, .string ⟨#[]⟩, .bool false]) (t := 45) (Sep.setBox (cs := #[.string ⟨#[]⟩, .int .i64 0, .int .i64 0, .string ⟨#[]⟩, .bool false]) (t := 45) (Sep.setBox (cs := #[.string ⟨#[]⟩, .int .i64 0, .int .i64 0, .string ⟨#[]⟩, .bool false]) (t := 45) (Sep.setBox (cs := #[.string ⟨#[]⟩, .int .i64 0, .int .i64 0, .string ⟨#[]⟩, .bool false]) (t := 45) T154 1 rfl 0 (.string ⟨#[]⟩)) 1 rfl 1 (.int .i64 0)) 1 rfl 2 (.int .i64 0)) 1 rfl 3 (.string ⟨#[]⟩)) 1 rfl 4 (.bool false))
            try simp only [size_drew, World.size_alloc] at T155
            refine hK.out _ _ (KbaseE.out _ [_, _, _] T155) (fun hH => ?_)
            clear hK K
            refine wpAnyH_done (by kernel_rfl) ?_ _
            as_aux_lemma =>
              go_wp2_with fail
              go_meet
              exact ⟨[_, _, _], 1, 2, _, _, rfl, rfl, by decide, rfl, rfl, T155⟩
          · go_simp
            go_wp2_with (go_at_call 19; refine (KM.out _ [_, _] T150).mono ?_; rintro e w156 ⟨rfl, T156⟩)
            clear hH
            refine hK.out _ _ (KbaseD.out _ [_, _] T156) (fun hH => ?_)
            clear hK K
            refine readyT [2] ?_
            refine consT (fun K hK => ?_) AllReadyH.nil
            go_simp
            have T157 : Sep w ([refB _ 3, excB _ ⟨#[]⟩, zeroB _] ++ baseD) _ := Sep.alloc T156 (.cells #[.int .i64 4, .int .i64 3, .string ⟨#[]⟩] 33)
            try simp only [size_drew, World.size_alloc] at T157
            clear hH
            refine hK.out _ _ (KbaseD.out _ [_, _, _] T157) (fun hH => ?_)
            clear hK K
            refine readyT [5] ?_
            refine consT (fun K hK => ?_) AllReadyH.nil
            go_simp
            go_wp2_with (go_at_call 28; refine (KC.out _ [_, _, _] _ 0 rfl T157).mono ?_; rintro e w158 ⟨rfl, T158⟩)
            clear hH
            refine hK.out _ _ (KbaseE.out _ [_, _, _] T158) (fun hH => ?_)
            clear hK K
            refine takeT 6 hH (hy := .inl ⟨by rfl, by (intro w hSw; try obtain ⟨u0, u1, u2⟩ := hSw); (go_simp; try rfl)⟩) (h := ?_)
            simp only [Act.put, List.setIfInBounds_toArray, List.set_cons_zero, List.set_cons_succ]
            refine takeT 7 hH (hy := .inl ⟨by rfl, by (intro w hSw; try obtain ⟨u0, u1, u2⟩ := hSw); (go_simp; try rfl)⟩) (h := ?_)
            simp only [Act.put, List.setIfInBounds_toArray, List.set_cons_zero, List.set_cons_succ]
            refine takeT 8 hH (hy := .inl ⟨by rfl, by (intro w hSw; try obtain ⟨u0, u1, u2⟩ := hSw); (go_simp; try rfl)⟩) (h := ?_)
            simp only [Act.put, List.setIfInBounds_toArray, List.set_cons_zero, List.set_cons_succ]
            refine readyT [11] ?_
            refine consT (fun K hK => ?_) AllReadyH.nil
            have hz := T158.box 2 rfl
            have z0 := cellAt hz 0 (v := .int .i64 0) rfl
            have z1 := cellAt hz 1 (v := .int .i64 0) rfl
            have z2 := cellAt hz 2 (v := .string ⟨#[]⟩) rfl
            have z3 := frozenAt hz 0
            have z4 := frozenAt hz 1
            have z5 := frozenAt hz 2
            go_simp
            clear hz z0 z1 z2 z3 z4 z5
            clear hH
            have T159 : Sep w ([refB _ 3, excB _ ⟨#[]⟩, refB _ 5] ++ baseE) _ := (Sep.setBox (cs := #[.int .i64 4, .int .i64 5, .string ⟨#[]⟩]) (t := 33) (Sep.setBox (cs := #[.int .i64 4, .int .i64 0, .string ⟨#[]⟩]) (t := 33) (Sep.setBox (cs := #[.int .i64 0, .int .i64 0, .string ⟨#[]⟩]) (t := 33) T158 2 rfl 0 (.int .i64 4)) 2 rfl 1 (.int .i64 5)) 2 rfl 2 (.string ⟨#[]⟩))
            try simp only [size_drew, World.size_alloc] at T159
            refine hK.out _ _ (KbaseE.out _ [_, _, _] T159) (fun hH => ?_)
            clear hK K
            refine readyT [12] ?_
            refine consT (fun K hK => ?_) AllReadyH.nil
            have hz := T159.box 1 rfl
            have z0 := cellAt hz 0 (v := .string ⟨#[]⟩) rfl
            have z1 := cellAt hz 1 (v := .int .i64 0) rfl
            have z2 := cellAt hz 2 (v := .int .i64 0) rfl
            have z3 := cellAt hz 3 (v := .string ⟨#[]⟩) rfl
            have z4 := cellAt hz 4 (v := .bool false) rfl
            have z5 := frozenAt hz 0
            have z6 := frozenAt hz 1
            have z7 := frozenAt hz 2
            have z8 := frozenAt hz 3
            have z9 := frozenAt hz 4
            go_simp
            clear hz z0 z1 z2 z3 z4 z5 z6 z7 z8 z9
            clear hH
            have T160 : Sep w ([refB _ 3, excB _ ⟨#[]⟩, refB _ 5] ++ baseE) _ := (Sep.setBox (cs := #[.string ⟨#[]⟩, .int .i64 0, .int .i64 0, .string ⟨#[]⟩, .bool false]) (t := 45) (Sep.setBox (cs := #[.string ⟨#[]⟩, .int .i64 0, .int .i64 0, .string ⟨#[]⟩, .bool false]) (t := 45) (Sep.setBox (cs := #[.string ⟨#[]⟩, .int .i64 0, .int .i64 0, .string ⟨#[]⟩, .bool false]) (t := 45) (Sep.setBox (cs := #[.string ⟨#[]⟩, .int .i64 0, .int .i64 0, .string ⟨#[]⟩, .bool false]) (t := 45) (Sep.setBox (cs := #[.string ⟨#[]⟩, .int .i64 0, .int .i64 0, .string ⟨#[]⟩, .bool false]) (t := 45) T159 1 rfl 0 (.string ⟨#[]⟩)) 1 rfl 1 (.int .i64 0)) 1 rfl 2 (.int .i64 0)) 1 rfl 3 (.string ⟨#[]⟩)) 1 rfl 4 (.bool false))
            try simp only [size_drew, World.size_alloc] at T160
            refine hK.out _ _ (KbaseE.out _ [_, _, _] T160) (fun hH => ?_)
            clear hK K
            refine wpAnyH_done (by kernel_rfl) ?_ _
            as_aux_lemma =>
              go_wp2_with fail
              go_meet
              exact ⟨[_, _, _], 1, 2, _, _, rfl, rfl, by decide, rfl, rfl, T160⟩
      · go_simp
        have T161 : Sep w ([excB _ ⟨#[]⟩] ++ baseC) _ := Sep.alloc T0 (.cells #[.string ⟨#[]⟩, .int .i64 0, .int .i64 0, .string ⟨#[]⟩, .bool false] 45)
        try simp only [size_drew, World.size_alloc] at T161
        clear hH
        refine hK.out _ _ (KbaseC.out _ [_] T161) (fun hH => ?_)
        clear hK K
        refine readyT [2, 4, 9] ?_
        refine consT (fun K hK => ?_) (consT (fun K hK => ?_) (consT (fun K hK => ?_) AllReadyH.nil))
        · go_simp
          have T162 : Sep w ([refB _ 3, excB _ ⟨#[]⟩] ++ baseC) _ := Sep.alloc T161 (.cells #[.int .i64 4, .int .i64 3, .string ⟨#[]⟩] 33)
          try simp only [size_drew, World.size_alloc] at T162
          clear hH
          refine hK.out _ _ (KbaseC.out _ [_, _] T162) (fun hH => ?_)
          clear hK K
          refine readyT [4, 9] ?_
          refine consT (fun K hK => ?_) (consT (fun K hK => ?_) AllReadyH.nil)
          · go_simp
            go_wp2_with (go_at_call 19; refine (KM.out _ [_, _] T162).mono ?_; rintro e w163 ⟨rfl, T163⟩)
            clear hH
            refine hK.out _ _ (KbaseD.out _ [_, _] T163) (fun hH => ?_)
            clear hK K
            refine readyT [5, 9] ?_
            refine consT (fun K hK => ?_) (consT (fun K hK => ?_) AllReadyH.nil)
            · go_simp
              go_wp2_with (go_at_call 28; refine (KC.out _ [_, _] _ 0 rfl T163).mono ?_; rintro e w164 ⟨rfl, T164⟩)
              clear hH
              refine hK.out _ _ (KbaseE.out _ [_, _] T164) (fun hH => ?_)
              clear hK K
              refine takeT 6 hH (hy := .inl ⟨by rfl, by (intro w hSw; try obtain ⟨u0, u1, u2⟩ := hSw); (go_simp; try rfl)⟩) (h := ?_)
              simp only [Act.put, List.setIfInBounds_toArray, List.set_cons_zero, List.set_cons_succ]
              refine takeT 7 hH (hy := .inl ⟨by rfl, by (intro w hSw; try obtain ⟨u0, u1, u2⟩ := hSw); (go_simp; try rfl)⟩) (h := ?_)
              simp only [Act.put, List.setIfInBounds_toArray, List.set_cons_zero, List.set_cons_succ]
              refine takeT 8 hH (hy := .inl ⟨by rfl, by (intro w hSw; try obtain ⟨u0, u1, u2⟩ := hSw); (go_simp; try rfl)⟩) (h := ?_)
              simp only [Act.put, List.setIfInBounds_toArray, List.set_cons_zero, List.set_cons_succ]
              refine readyT [9] ?_
              refine consT (fun K hK => ?_) AllReadyH.nil
              go_simp
              have T165 : Sep w ([zeroB _, refB _ 3, excB _ ⟨#[]⟩] ++ baseE) _ := Sep.alloc T164 (.cells #[.int .i64 0, .int .i64 0, .string ⟨#[]⟩] 33)
              try simp only [size_drew, World.size_alloc] at T165
              clear hH
              refine hK.out _ _ (KbaseE.out _ [_, _, _] T165) (fun hH => ?_)
              clear hK K
              refine readyT [11] ?_
              refine consT (fun K hK => ?_) AllReadyH.nil
              have hz := T165.box 0 rfl
              have z0 := cellAt hz 0 (v := .int .i64 0) rfl
              have z1 := cellAt hz 1 (v := .int .i64 0) rfl
              have z2 := cellAt hz 2 (v := .string ⟨#[]⟩) rfl
              have z3 := frozenAt hz 0
              have z4 := frozenAt hz 1
              have z5 := frozenAt hz 2
              go_simp
              clear hz z0 z1 z2 z3 z4 z5
              clear hH
              have T166 : Sep w ([refB _ 5, refB _ 3, excB _ ⟨#[]⟩] ++ baseE) _ := (Sep.alloc T164 (.cells #[.int .i64 4, .int .i64 5, .string ⟨#[]⟩] 33))
              try simp only [size_drew, World.size_alloc] at T166
              refine hK.out _ _ (KbaseE.out _ [_, _, _] T166) (fun hH => ?_)
              clear hK K
              refine readyT [12] ?_
              refine consT (fun K hK => ?_) AllReadyH.nil
              have hz := T166.box 2 rfl
              have z0 := cellAt hz 0 (v := .string ⟨#[]⟩) rfl
              have z1 := cellAt hz 1 (v := .int .i64 0) rfl
              have z2 := cellAt hz 2 (v := .int .i64 0) rfl
              have z3 := cellAt hz 3 (v := .string ⟨#[]⟩) rfl
              have z4 := cellAt hz 4 (v := .bool false) rfl
              have z5 := frozenAt hz 0
              have z6 := frozenAt hz 1
              have z7 := frozenAt hz 2
              have z8 := frozenAt hz 3
              have z9 := frozenAt hz 4
              go_simp
              clear hz z0 z1 z2 z3 z4 z5 z6 z7 z8 z9
              clear hH
              have T167 : Sep w ([refB _ 5, refB _ 3, excB _ ⟨#[]⟩] ++ baseE) _ := (Sep.setBox (cs := #[.string ⟨#[]⟩, .int .i64 0, .int .i64 0, .string ⟨#[]⟩, .bool false]) (t := 45) (Sep.setBox (cs := #[.string ⟨#[]⟩, .int .i64 0, .int .i64 0, .string ⟨#[]⟩, .bool false]) (t := 45) (Sep.setBox (cs := #[.string ⟨#[]⟩, .int .i64 0, .int .i64 0, .string ⟨#[]⟩, .bool false]) (t := 45) (Sep.setBox (cs := #[.string ⟨#[]⟩, .int .i64 0, .int .i64 0, .string ⟨#[]⟩, .bool false]) (t := 45) (Sep.setBox (cs := #[.string ⟨#[]⟩, .int .i64 0, .int .i64 0, .string ⟨#[]⟩, .bool false]) (t := 45) T166 2 rfl 0 (.string ⟨#[]⟩)) 2 rfl 1 (.int .i64 0)) 2 rfl 2 (.int .i64 0)) 2 rfl 3 (.string ⟨#[]⟩)) 2 rfl 4 (.bool false))
              try simp only [size_drew, World.size_alloc] at T167
              refine hK.out _ _ (KbaseE.out _ [_, _, _] T167) (fun hH => ?_)
              clear hK K
              refine wpAnyH_done (by kernel_rfl) ?_ _
              as_aux_lemma =>
                go_wp2_with fail
                go_meet
                exact ⟨[_, _, _], 2, 0, _, _, rfl, rfl, by decide, rfl, rfl, T167⟩
            · go_simp
              have T168 : Sep w ([zeroB _, refB _ 3, excB _ ⟨#[]⟩] ++ baseD) _ := Sep.alloc T163 (.cells #[.int .i64 0, .int .i64 0, .string ⟨#[]⟩] 33)
              try simp only [size_drew, World.size_alloc] at T168
              clear hH
              refine hK.out _ _ (KbaseD.out _ [_, _, _] T168) (fun hH => ?_)
              clear hK K
              refine readyT [5] ?_
              refine consT (fun K hK => ?_) AllReadyH.nil
              go_simp
              go_wp2_with (go_at_call 28; refine (KC.out _ [_, _, _] _ 1 rfl T168).mono ?_; rintro e w169 ⟨rfl, T169⟩)
              clear hH
              refine hK.out _ _ (KbaseE.out _ [_, _, _] T169) (fun hH => ?_)
              clear hK K
              refine takeT 6 hH (hy := .inl ⟨by rfl, by (intro w hSw; try obtain ⟨u0, u1, u2⟩ := hSw); (go_simp; try rfl)⟩) (h := ?_)
              simp only [Act.put, List.setIfInBounds_toArray, List.set_cons_zero, List.set_cons_succ]
              refine takeT 7 hH (hy := .inl ⟨by rfl, by (intro w hSw; try obtain ⟨u0, u1, u2⟩ := hSw); (go_simp; try rfl)⟩) (h := ?_)
              simp only [Act.put, List.setIfInBounds_toArray, List.set_cons_zero, List.set_cons_succ]
              refine takeT 8 hH (hy := .inl ⟨by rfl, by (intro w hSw; try obtain ⟨u0, u1, u2⟩ := hSw); (go_simp; try rfl)⟩) (h := ?_)
              simp only [Act.put, List.setIfInBounds_toArray, List.set_cons_zero, List.set_cons_succ]
              refine readyT [11] ?_
              refine consT (fun K hK => ?_) AllReadyH.nil
              have hz := T169.box 0 rfl
              have z0 := cellAt hz 0 (v := .int .i64 0) rfl
              have z1 := cellAt hz 1 (v := .int .i64 0) rfl
              have z2 := cellAt hz 2 (v := .string ⟨#[]⟩) rfl
              have z3 := frozenAt hz 0
              have z4 := frozenAt hz 1
              have z5 := frozenAt hz 2
              go_simp
              clear hz z0 z1 z2 z3 z4 z5
              clear hH
              have T170 : Sep w ([refB _ 5, refB _ 3, excB _ ⟨#[]⟩] ++ baseE) _ := (Sep.setBox (cs := #[.int .i64 4, .int .i64 5, .string ⟨#[]⟩]) (t := 33) (Sep.setBox (cs := #[.int .i64 4, .int .i64 0, .string ⟨#[]⟩]) (t := 33) (Sep.setBox (cs := #[.int .i64 0, .int .i64 0, .string ⟨#[]⟩]) (t := 33) T169 0 rfl 0 (.int .i64 4)) 0 rfl 1 (.int .i64 5)) 0 rfl 2 (.string ⟨#[]⟩))
              try simp only [size_drew, World.size_alloc] at T170
              refine hK.out _ _ (KbaseE.out _ [_, _, _] T170) (fun hH => ?_)
              clear hK K
              refine readyT [12] ?_
              refine consT (fun K hK => ?_) AllReadyH.nil
              have hz := T170.box 2 rfl
              have z0 := cellAt hz 0 (v := .string ⟨#[]⟩) rfl
              have z1 := cellAt hz 1 (v := .int .i64 0) rfl
              have z2 := cellAt hz 2 (v := .int .i64 0) rfl
              have z3 := cellAt hz 3 (v := .string ⟨#[]⟩) rfl
              have z4 := cellAt hz 4 (v := .bool false) rfl
              have z5 := frozenAt hz 0
              have z6 := frozenAt hz 1
              have z7 := frozenAt hz 2
              have z8 := frozenAt hz 3
              have z9 := frozenAt hz 4
              go_simp
              clear hz z0 z1 z2 z3 z4 z5 z6 z7 z8 z9
              clear hH
              have T171 : Sep w ([refB _ 5, refB _ 3, excB _ ⟨#[]⟩] ++ baseE) _ := (Sep.setBox (cs := #[.string ⟨#[]⟩, .int .i64 0, .int .i64 0, .string ⟨#[]⟩, .bool false]) (t := 45) (Sep.setBox (cs := #[.string ⟨#[]⟩, .int .i64 0, .int .i64 0, .string ⟨#[]⟩, .bool false]) (t := 45) (Sep.setBox (cs := #[.string ⟨#[]⟩, .int .i64 0, .int .i64 0, .string ⟨#[]⟩, .bool false]) (t := 45) (Sep.setBox (cs := #[.string ⟨#[]⟩, .int .i64 0, .int .i64 0, .string ⟨#[]⟩, .bool false]) (t := 45) (Sep.setBox (cs := #[.string ⟨#[]⟩, .int .i64 0, .int .i64 0, .string ⟨#[]⟩, .bool false]) (t := 45) T170 2 rfl 0 (.string ⟨#[]⟩)) 2 rfl 1 (.int .i64 0)) 2 rfl 2 (.int .i64 0)) 2 rfl 3 (.string ⟨#[]⟩)) 2 rfl 4 (.bool false))
              try simp only [size_drew, World.size_alloc] at T171
              refine hK.out _ _ (KbaseE.out _ [_, _, _] T171) (fun hH => ?_)
              clear hK K
              refine wpAnyH_done (by kernel_rfl) ?_ _
              as_aux_lemma =>
                go_wp2_with fail
                go_meet
                exact ⟨[_, _, _], 2, 0, _, _, rfl, rfl, by decide, rfl, rfl, T171⟩
          · go_simp
            have T172 : Sep w ([zeroB _, refB _ 3, excB _ ⟨#[]⟩] ++ baseC) _ := Sep.alloc T162 (.cells #[.int .i64 0, .int .i64 0, .string ⟨#[]⟩] 33)
            try simp only [size_drew, World.size_alloc] at T172
            clear hH
            refine hK.out _ _ (KbaseC.out _ [_, _, _] T172) (fun hH => ?_)
            clear hK K
            refine readyT [4] ?_
            refine consT (fun K hK => ?_) AllReadyH.nil
            go_simp
            go_wp2_with (go_at_call 19; refine (KM.out _ [_, _, _] T172).mono ?_; rintro e w173 ⟨rfl, T173⟩)
            clear hH
            refine hK.out _ _ (KbaseD.out _ [_, _, _] T173) (fun hH => ?_)
            clear hK K
            refine readyT [5] ?_
            refine consT (fun K hK => ?_) AllReadyH.nil
            go_simp
            go_wp2_with (go_at_call 28; refine (KC.out _ [_, _, _] _ 1 rfl T173).mono ?_; rintro e w174 ⟨rfl, T174⟩)
            clear hH
            refine hK.out _ _ (KbaseE.out _ [_, _, _] T174) (fun hH => ?_)
            clear hK K
            refine takeT 6 hH (hy := .inl ⟨by rfl, by (intro w hSw; try obtain ⟨u0, u1, u2⟩ := hSw); (go_simp; try rfl)⟩) (h := ?_)
            simp only [Act.put, List.setIfInBounds_toArray, List.set_cons_zero, List.set_cons_succ]
            refine takeT 7 hH (hy := .inl ⟨by rfl, by (intro w hSw; try obtain ⟨u0, u1, u2⟩ := hSw); (go_simp; try rfl)⟩) (h := ?_)
            simp only [Act.put, List.setIfInBounds_toArray, List.set_cons_zero, List.set_cons_succ]
            refine takeT 8 hH (hy := .inl ⟨by rfl, by (intro w hSw; try obtain ⟨u0, u1, u2⟩ := hSw); (go_simp; try rfl)⟩) (h := ?_)
            simp only [Act.put, List.setIfInBounds_toArray, List.set_cons_zero, List.set_cons_succ]
            refine readyT [11] ?_
            refine consT (fun K hK => ?_) AllReadyH.nil
            have hz := T174.box 0 rfl
            have z0 := cellAt hz 0 (v := .int .i64 0) rfl
            have z1 := cellAt hz 1 (v := .int .i64 0) rfl
            have z2 := cellAt hz 2 (v := .string ⟨#[]⟩) rfl
            have z3 := frozenAt hz 0
            have z4 := frozenAt hz 1
            have z5 := frozenAt hz 2
            go_simp
            clear hz z0 z1 z2 z3 z4 z5
            clear hH
            have T175 : Sep w ([refB _ 5, refB _ 3, excB _ ⟨#[]⟩] ++ baseE) _ := (Sep.setBox (cs := #[.int .i64 4, .int .i64 5, .string ⟨#[]⟩]) (t := 33) (Sep.setBox (cs := #[.int .i64 4, .int .i64 0, .string ⟨#[]⟩]) (t := 33) (Sep.setBox (cs := #[.int .i64 0, .int .i64 0, .string ⟨#[]⟩]) (t := 33) T174 0 rfl 0 (.int .i64 4)) 0 rfl 1 (.int .i64 5)) 0 rfl 2 (.string ⟨#[]⟩))
            try simp only [size_drew, World.size_alloc] at T175
            refine hK.out _ _ (KbaseE.out _ [_, _, _] T175) (fun hH => ?_)
            clear hK K
            refine readyT [12] ?_
            refine consT (fun K hK => ?_) AllReadyH.nil
            have hz := T175.box 2 rfl
            have z0 := cellAt hz 0 (v := .string ⟨#[]⟩) rfl
            have z1 := cellAt hz 1 (v := .int .i64 0) rfl
            have z2 := cellAt hz 2 (v := .int .i64 0) rfl
            have z3 := cellAt hz 3 (v := .string ⟨#[]⟩) rfl
            have z4 := cellAt hz 4 (v := .bool false) rfl
            have z5 := frozenAt hz 0
            have z6 := frozenAt hz 1
            have z7 := frozenAt hz 2
            have z8 := frozenAt hz 3
            have z9 := frozenAt hz 4
            go_simp
            clear hz z0 z1 z2 z3 z4 z5 z6 z7 z8 z9
            clear hH
            have T176 : Sep w ([refB _ 5, refB _ 3, excB _ ⟨#[]⟩] ++ baseE) _ := (Sep.setBox (cs := #[.string ⟨#[]⟩, .int .i64 0, .int .i64 0, .string ⟨#[]⟩, .bool false]) (t := 45) (Sep.setBox (cs := #[.string ⟨#[]⟩, .int .i64 0, .int .i64 0, .string ⟨#[]⟩, .bool false]) (t := 45) (Sep.setBox (cs := #[.string ⟨#[]⟩, .int .i64 0, .int .i64 0, .string ⟨#[]⟩, .bool false]) (t := 45) (Sep.setBox (cs := #[.string ⟨#[]⟩, .int .i64 0, .int .i64 0, .string ⟨#[]⟩, .bool false]) (t := 45) (Sep.setBox (cs := #[.string ⟨#[]⟩, .int .i64 0, .int .i64 0, .string ⟨#[]⟩, .bool false]) (t := 45) T175 2 rfl 0 (.string ⟨#[]⟩)) 2 rfl 1 (.int .i64 0)) 2 rfl 2 (.int .i64 0)) 2 rfl 3 (.string ⟨#[]⟩)) 2 rfl 4 (.bool false))
            try simp only [size_drew, World.size_alloc] at T176
            refine hK.out _ _ (KbaseE.out _ [_, _, _] T176) (fun hH => ?_)
            clear hK K
            refine wpAnyH_done (by kernel_rfl) ?_ _
            as_aux_lemma =>
              go_wp2_with fail
              go_meet
              exact ⟨[_, _, _], 2, 0, _, _, rfl, rfl, by decide, rfl, rfl, T176⟩
        · go_simp
          go_wp2_with (go_at_call 19; refine (KM.out _ [_] T161).mono ?_; rintro e w177 ⟨rfl, T177⟩)
          clear hH
          refine hK.out _ _ (KbaseD.out _ [_] T177) (fun hH => ?_)
          clear hK K
          refine readyT [2, 9] ?_
          refine consT (fun K hK => ?_) (consT (fun K hK => ?_) AllReadyH.nil)
          · go_simp
            have T178 : Sep w ([refB _ 3, excB _ ⟨#[]⟩] ++ baseD) _ := Sep.alloc T177 (.cells #[.int .i64 4, .int .i64 3, .string ⟨#[]⟩] 33)
            try simp only [size_drew, World.size_alloc] at T178
            clear hH
            refine hK.out _ _ (KbaseD.out _ [_, _] T178) (fun hH => ?_)
            clear hK K
            refine readyT [5, 9] ?_
            refine consT (fun K hK => ?_) (consT (fun K hK => ?_) AllReadyH.nil)
            · go_simp
              go_wp2_with (go_at_call 28; refine (KC.out _ [_, _] _ 0 rfl T178).mono ?_; rintro e w179 ⟨rfl, T179⟩)
              clear hH
              refine hK.out _ _ (KbaseE.out _ [_, _] T179) (fun hH => ?_)
              clear hK K
              refine takeT 6 hH (hy := .inl ⟨by rfl, by (intro w hSw; try obtain ⟨u0, u1, u2⟩ := hSw); (go_simp; try rfl)⟩) (h := ?_)
              simp only [Act.put, List.setIfInBounds_toArray, List.set_cons_zero, List.set_cons_succ]
              refine takeT 7 hH (hy := .inl ⟨by rfl, by (intro w hSw; try obtain ⟨u0, u1, u2⟩ := hSw); (go_simp; try rfl)⟩) (h := ?_)
              simp only [Act.put, List.setIfInBounds_toArray, List.set_cons_zero, List.set_cons_succ]
              refine takeT 8 hH (hy := .inl ⟨by rfl, by (intro w hSw; try obtain ⟨u0, u1, u2⟩ := hSw); (go_simp; try rfl)⟩) (h := ?_)
              simp only [Act.put, List.setIfInBounds_toArray, List.set_cons_zero, List.set_cons_succ]
              refine readyT [9] ?_
              refine consT (fun K hK => ?_) AllReadyH.nil
              go_simp
              have T180 : Sep w ([zeroB _, refB _ 3, excB _ ⟨#[]⟩] ++ baseE) _ := Sep.alloc T179 (.cells #[.int .i64 0, .int .i64 0, .string ⟨#[]⟩] 33)
              try simp only [size_drew, World.size_alloc] at T180
              clear hH
              refine hK.out _ _ (KbaseE.out _ [_, _, _] T180) (fun hH => ?_)
              clear hK K
              refine readyT [11] ?_
              refine consT (fun K hK => ?_) AllReadyH.nil
              have hz := T180.box 0 rfl
              have z0 := cellAt hz 0 (v := .int .i64 0) rfl
              have z1 := cellAt hz 1 (v := .int .i64 0) rfl
              have z2 := cellAt hz 2 (v := .string ⟨#[]⟩) rfl
              have z3 := frozenAt hz 0
              have z4 := frozenAt hz 1
              have z5 := frozenAt hz 2
              go_simp
              clear hz z0 z1 z2 z3 z4 z5
              clear hH
              have T181 : Sep w ([refB _ 5, refB _ 3, excB _ ⟨#[]⟩] ++ baseE) _ := (Sep.alloc T179 (.cells #[.int .i64 4, .int .i64 5, .string ⟨#[]⟩] 33))
              try simp only [size_drew, World.size_alloc] at T181
              refine hK.out _ _ (KbaseE.out _ [_, _, _] T181) (fun hH => ?_)
              clear hK K
              refine readyT [12] ?_
              refine consT (fun K hK => ?_) AllReadyH.nil
              have hz := T181.box 2 rfl
              have z0 := cellAt hz 0 (v := .string ⟨#[]⟩) rfl
              have z1 := cellAt hz 1 (v := .int .i64 0) rfl
              have z2 := cellAt hz 2 (v := .int .i64 0) rfl
              have z3 := cellAt hz 3 (v := .string ⟨#[]⟩) rfl
              have z4 := cellAt hz 4 (v := .bool false) rfl
              have z5 := frozenAt hz 0
              have z6 := frozenAt hz 1
              have z7 := frozenAt hz 2
              have z8 := frozenAt hz 3
              have z9 := frozenAt hz 4
              go_simp
              clear hz z0 z1 z2 z3 z4 z5 z6 z7 z8 z9
              clear hH
              have T182 : Sep w ([refB _ 5, refB _ 3, excB _ ⟨#[]⟩] ++ baseE) _ := (Sep.setBox (cs := #[.string ⟨#[]⟩, .int .i64 0, .int .i64 0, .string ⟨#[]⟩, .bool false]) (t := 45) (Sep.setBox (cs := #[.string ⟨#[]⟩, .int .i64 0, .int .i64 0, .string ⟨#[]⟩, .bool false]) (t := 45) (Sep.setBox (cs := #[.string ⟨#[]⟩, .int .i64 0, .int .i64 0, .string ⟨#[]⟩, .bool false]) (t := 45) (Sep.setBox (cs := #[.string ⟨#[]⟩, .int .i64 0, .int .i64 0, .string ⟨#[]⟩, .bool false]) (t := 45) (Sep.setBox (cs := #[.string ⟨#[]⟩, .int .i64 0, .int .i64 0, .string ⟨#[]⟩, .bool false]) (t := 45) T181 2 rfl 0 (.string ⟨#[]⟩)) 2 rfl 1 (.int .i64 0)) 2 rfl 2 (.int .i64 0)) 2 rfl 3 (.string ⟨#[]⟩)) 2 rfl 4 (.bool false))
              try simp only [size_drew, World.size_alloc] at T182
              refine hK.out _ _ (KbaseE.out _ [_, _, _] T182) (fun hH => ?_)
              clear hK K
              refine wpAnyH_done (by kernel_rfl) ?_ _
              as_aux_lemma =>
                go_wp2_with fail
                go_meet
                exact ⟨[_, _, _], 2, 0, _, _, rfl, rfl, by decide, rfl, rfl, T182⟩
            · go_simp
              have T183 : Sep w ([zeroB _, refB _ 3, excB _ ⟨#[]⟩] ++ baseD) _ := Sep.alloc T178 (.cells #[.int .i64 0, .int .i64 0, .string ⟨#[]⟩] 33)
              try simp only [size_drew, World.size_alloc] at T183
              clear hH
              refine hK.out _ _ (KbaseD.out _ [_, _, _] T183) (fun hH => ?_)
              clear hK K
              refine readyT [5] ?_
              refine consT (fun K hK => ?_) AllReadyH.nil
              go_simp
              go_wp2_with (go_at_call 28; refine (KC.out _ [_, _, _] _ 1 rfl T183).mono ?_; rintro e w184 ⟨rfl, T184⟩)
              clear hH
              refine hK.out _ _ (KbaseE.out _ [_, _, _] T184) (fun hH => ?_)
              clear hK K
              refine takeT 6 hH (hy := .inl ⟨by rfl, by (intro w hSw; try obtain ⟨u0, u1, u2⟩ := hSw); (go_simp; try rfl)⟩) (h := ?_)
              simp only [Act.put, List.setIfInBounds_toArray, List.set_cons_zero, List.set_cons_succ]
              refine takeT 7 hH (hy := .inl ⟨by rfl, by (intro w hSw; try obtain ⟨u0, u1, u2⟩ := hSw); (go_simp; try rfl)⟩) (h := ?_)
              simp only [Act.put, List.setIfInBounds_toArray, List.set_cons_zero, List.set_cons_succ]
              refine takeT 8 hH (hy := .inl ⟨by rfl, by (intro w hSw; try obtain ⟨u0, u1, u2⟩ := hSw); (go_simp; try rfl)⟩) (h := ?_)
              simp only [Act.put, List.setIfInBounds_toArray, List.set_cons_zero, List.set_cons_succ]
              refine readyT [11] ?_
              refine consT (fun K hK => ?_) AllReadyH.nil
              have hz := T184.box 0 rfl
              have z0 := cellAt hz 0 (v := .int .i64 0) rfl
              have z1 := cellAt hz 1 (v := .int .i64 0) rfl
              have z2 := cellAt hz 2 (v := .string ⟨#[]⟩) rfl
              have z3 := frozenAt hz 0
              have z4 := frozenAt hz 1
              have z5 := frozenAt hz 2
              go_simp
              clear hz z0 z1 z2 z3 z4 z5
              clear hH
              have T185 : Sep w ([refB _ 5, refB _ 3, excB _ ⟨#[]⟩] ++ baseE) _ := (Sep.setBox (cs := #[.int .i64 4, .int .i64 5, .string ⟨#[]⟩]) (t := 33) (Sep.setBox (cs := #[.int .i64 4, .int .i64 0, .string ⟨#[]⟩]) (t := 33) (Sep.setBox (cs := #[.int .i64 0, .int .i64 0, .string ⟨#[]⟩]) (t := 33) T184 0 rfl 0 (.int .i64 4)) 0 rfl 1 (.int .i64 5)) 0 rfl 2 (.string ⟨#[]⟩))
              try simp only [size_drew, World.size_alloc] at T185
              refine hK.out _ _ (KbaseE.out _ [_, _, _] T185) (fun hH => ?_)
              clear hK K
              refine readyT [12] ?_
              refine consT (fun K hK => ?_) AllReadyH.nil
              have hz := T185.box 2 rfl
              have z0 := cellAt hz 0 (v := .string ⟨#[]⟩) rfl
              have z1 := cellAt hz 1 (v := .int .i64 0) rfl
              have z2 := cellAt hz 2 (v := .int .i64 0) rfl
              have z3 := cellAt hz 3 (v := .string ⟨#[]⟩) rfl
              have z4 := cellAt hz 4 (v := .bool false) rfl
              have z5 := frozenAt hz 0
              have z6 := frozenAt hz 1
              have z7 := frozenAt hz 2
              have z8 := frozenAt hz 3
              have z9 := frozenAt hz 4
              go_simp
              clear hz z0 z1 z2 z3 z4 z5 z6 z7 z8 z9
              clear hH
              have T186 : Sep w ([refB _ 5, refB _ 3, excB _ ⟨#[]⟩] ++ baseE) _ := (Sep.setBox (cs := #[.string ⟨#[]⟩, .int .i64 0, .int .i64 0, .string ⟨#[]⟩, .bool false]) (t := 45) (Sep.setBox (cs := #[.string ⟨#[]⟩, .int .i64 0, .int .i64 0, .string ⟨#[]⟩, .bool false]) (t := 45) (Sep.setBox (cs := #[.string ⟨#[]⟩, .int .i64 0, .int .i64 0, .string ⟨#[]⟩, .bool false]) (t := 45) (Sep.setBox (cs := #[.string ⟨#[]⟩, .int .i64 0, .int .i64 0, .string ⟨#[]⟩, .bool false]) (t := 45) (Sep.setBox (cs := #[.string ⟨#[]⟩, .int .i64 0, .int .i64 0, .string ⟨#[]⟩, .bool false]) (t := 45) T185 2 rfl 0 (.string ⟨#[]⟩)) 2 rfl 1 (.int .i64 0)) 2 rfl 2 (.int .i64 0)) 2 rfl 3 (.string ⟨#[]⟩)) 2 rfl 4 (.bool false))
              try simp only [size_drew, World.size_alloc] at T186
              refine hK.out _ _ (KbaseE.out _ [_, _, _] T186) (fun hH => ?_)
              clear hK K
              refine wpAnyH_done (by kernel_rfl) ?_ _
              as_aux_lemma =>
                go_wp2_with fail
                go_meet
                exact ⟨[_, _, _], 2, 0, _, _, rfl, rfl, by decide, rfl, rfl, T186⟩
          · go_simp
            have T187 : Sep w ([zeroB _, excB _ ⟨#[]⟩] ++ baseD) _ := Sep.alloc T177 (.cells #[.int .i64 0, .int .i64 0, .string ⟨#[]⟩] 33)
            try simp only [size_drew, World.size_alloc] at T187
            clear hH
            refine hK.out _ _ (KbaseD.out _ [_, _] T187) (fun hH => ?_)
            clear hK K
            refine readyT [2] ?_
            refine consT (fun K hK => ?_) AllReadyH.nil
            go_simp
            have T188 : Sep w ([refB _ 3, zeroB _, excB _ ⟨#[]⟩] ++ baseD) _ := Sep.alloc T187 (.cells #[.int .i64 4, .int .i64 3, .string ⟨#[]⟩] 33)
            try simp only [size_drew, World.size_alloc] at T188
            clear hH
            refine hK.out _ _ (KbaseD.out _ [_, _, _] T188) (fun hH => ?_)
            clear hK K
            refine readyT [5] ?_
            refine consT (fun K hK => ?_) AllReadyH.nil
            go_simp
            go_wp2_with (go_at_call 28; refine (KC.out _ [_, _, _] _ 0 rfl T188).mono ?_; rintro e w189 ⟨rfl, T189⟩)
            clear hH
            refine hK.out _ _ (KbaseE.out _ [_, _, _] T189) (fun hH => ?_)
            clear hK K
            refine takeT 6 hH (hy := .inl ⟨by rfl, by (intro w hSw; try obtain ⟨u0, u1, u2⟩ := hSw); (go_simp; try rfl)⟩) (h := ?_)
            simp only [Act.put, List.setIfInBounds_toArray, List.set_cons_zero, List.set_cons_succ]
            refine takeT 7 hH (hy := .inl ⟨by rfl, by (intro w hSw; try obtain ⟨u0, u1, u2⟩ := hSw); (go_simp; try rfl)⟩) (h := ?_)
            simp only [Act.put, List.setIfInBounds_toArray, List.set_cons_zero, List.set_cons_succ]
            refine takeT 8 hH (hy := .inl ⟨by rfl, by (intro w hSw; try obtain ⟨u0, u1, u2⟩ := hSw); (go_simp; try rfl)⟩) (h := ?_)
            simp only [Act.put, List.setIfInBounds_toArray, List.set_cons_zero, List.set_cons_succ]
            refine readyT [11] ?_
            refine consT (fun K hK => ?_) AllReadyH.nil
            have hz := T189.box 1 rfl
            have z0 := cellAt hz 0 (v := .int .i64 0) rfl
            have z1 := cellAt hz 1 (v := .int .i64 0) rfl
            have z2 := cellAt hz 2 (v := .string ⟨#[]⟩) rfl
            have z3 := frozenAt hz 0
            have z4 := frozenAt hz 1
            have z5 := frozenAt hz 2
            go_simp
            clear hz z0 z1 z2 z3 z4 z5
            clear hH
            have T190 : Sep w ([refB _ 3, refB _ 5, excB _ ⟨#[]⟩] ++ baseE) _ := (Sep.setBox (cs := #[.int .i64 4, .int .i64 5, .string ⟨#[]⟩]) (t := 33) (Sep.setBox (cs := #[.int .i64 4, .int .i64 0, .string ⟨#[]⟩]) (t := 33) (Sep.setBox (cs := #[.int .i64 0, .int .i64 0, .string ⟨#[]⟩]) (t := 33) T189 1 rfl 0 (.int .i64 4)) 1 rfl 1 (.int .i64 5)) 1 rfl 2 (.string ⟨#[]⟩))
            try simp only [size_drew, World.size_alloc] at T190
            refine hK.out _ _ (KbaseE.out _ [_, _, _] T190) (fun hH => ?_)
            clear hK K
            refine readyT [12] ?_
            refine consT (fun K hK => ?_) AllReadyH.nil
            have hz := T190.box 2 rfl
            have z0 := cellAt hz 0 (v := .string ⟨#[]⟩) rfl
            have z1 := cellAt hz 1 (v := .int .i64 0) rfl
            have z2 := cellAt hz 2 (v := .int .i64 0) rfl
            have z3 := cellAt hz 3 (v := .string ⟨#[]⟩) rfl
            have z4 := cellAt hz 4 (v := .bool false) rfl
            have z5 := frozenAt hz 0
            have z6 := frozenAt hz 1
            have z7 := frozenAt hz 2
            have z8 := frozenAt hz 3
            have z9 := frozenAt hz 4
            go_simp
            clear hz z0 z1 z2 z3 z4 z5 z6 z7 z8 z9
            clear hH
            have T191 : Sep w ([refB _ 3, refB _ 5, excB _ ⟨#[]⟩] ++ baseE) _ := (Sep.setBox (cs := #[.string ⟨#[]⟩, .int .i64 0, .int .i64 0, .string ⟨#[]⟩, .bool false]) (t := 45) (Sep.setBox (cs := #[.string ⟨#[]⟩, .int .i64 0, .int .i64 0, .string ⟨#[]⟩, .bool false]) (t := 45) (Sep.setBox (cs := #[.string ⟨#[]⟩, .int .i64 0, .int .i64 0, .string ⟨#[]⟩, .bool false]) (t := 45) (Sep.setBox (cs := #[.string ⟨#[]⟩, .int .i64 0, .int .i64 0, .string ⟨#[]⟩, .bool false]) (t := 45) (Sep.setBox (cs := #[.string ⟨#[]⟩, .int .i64 0, .int .i64 0, .string ⟨#[]⟩, .bool false]) (t := 45) T190 2 rfl 0 (.string ⟨#[]⟩)) 2 rfl 1 (.int .i64 0)) 2 rfl 2 (.int .i64 0)) 2 rfl 3 (.string ⟨#[]⟩)) 2 rfl 4 (.bool false))
            try simp only [size_drew, World.size_alloc] at T191
            refine hK.out _ _ (KbaseE.out _ [_, _, _] T191) (fun hH => ?_)
            clear hK K
            refine wpAnyH_done (by kernel_rfl) ?_ _
            as_aux_lemma =>
              go_wp2_with fail
              go_meet
              exact ⟨[_, _, _], 2, 1, _, _, rfl, rfl, by decide, rfl, rfl, T191⟩
        · go_simp
          have T192 : Sep w ([zeroB _, excB _ ⟨#[]⟩] ++ baseC) _ := Sep.alloc T161 (.cells #[.int .i64 0, .int .i64 0, .string ⟨#[]⟩] 33)
          try simp only [size_drew, World.size_alloc] at T192
          clear hH
          refine hK.out _ _ (KbaseC.out _ [_, _] T192) (fun hH => ?_)
          clear hK K
          refine readyT [2, 4] ?_
          refine consT (fun K hK => ?_) (consT (fun K hK => ?_) AllReadyH.nil)
          · go_simp
            have T193 : Sep w ([refB _ 3, zeroB _, excB _ ⟨#[]⟩] ++ baseC) _ := Sep.alloc T192 (.cells #[.int .i64 4, .int .i64 3, .string ⟨#[]⟩] 33)
            try simp only [size_drew, World.size_alloc] at T193
            clear hH
            refine hK.out _ _ (KbaseC.out _ [_, _, _] T193) (fun hH => ?_)
            clear hK K
            refine readyT [4] ?_
            refine consT (fun K hK => ?_) AllReadyH.nil
            go_simp
            go_wp2_with (go_at_call 19; refine (KM.out _ [_, _, _] T193).mono ?_; rintro e w194 ⟨rfl, T194⟩)
            clear hH
            refine hK.out _ _ (KbaseD.out _ [_, _, _] T194) (fun hH => ?_)
            clear hK K
            refine readyT [5] ?_
            refine consT (fun K hK => ?_) AllReadyH.nil
            go_simp
            go_wp2_with (go_at_call 28; refine (KC.out _ [_, _, _] _ 0 rfl T194).mono ?_; rintro e w195 ⟨rfl, T195⟩)
            clear hH
            refine hK.out _ _ (KbaseE.out _ [_, _, _] T195) (fun hH => ?_)
            clear hK K
            refine takeT 6 hH (hy := .inl ⟨by rfl, by (intro w hSw; try obtain ⟨u0, u1, u2⟩ := hSw); (go_simp; try rfl)⟩) (h := ?_)
            simp only [Act.put, List.setIfInBounds_toArray, List.set_cons_zero, List.set_cons_succ]
            refine takeT 7 hH (hy := .inl ⟨by rfl, by (intro w hSw; try obtain ⟨u0, u1, u2⟩ := hSw); (go_simp; try rfl)⟩) (h := ?_)
            simp only [Act.put, List.setIfInBounds_toArray, List.set_cons_zero, List.set_cons_succ]
            refine takeT 8 hH (hy := .inl ⟨by rfl, by (intro w hSw; try obtain ⟨u0, u1, u2⟩ := hSw); (go_simp; try rfl)⟩) (h := ?_)
            simp only [Act.put, List.setIfInBounds_toArray, List.set_cons_zero, List.set_cons_succ]
            refine readyT [11] ?_
            refine consT (fun K hK => ?_) AllReadyH.nil
            have hz := T195.box 1 rfl
            have z0 := cellAt hz 0 (v := .int .i64 0) rfl
            have z1 := cellAt hz 1 (v := .int .i64 0) rfl
            have z2 := cellAt hz 2 (v := .string ⟨#[]⟩) rfl
            have z3 := frozenAt hz 0
            have z4 := frozenAt hz 1
            have z5 := frozenAt hz 2
            go_simp
            clear hz z0 z1 z2 z3 z4 z5
            clear hH
            have T196 : Sep w ([refB _ 3, refB _ 5, excB _ ⟨#[]⟩] ++ baseE) _ := (Sep.setBox (cs := #[.int .i64 4, .int .i64 5, .string ⟨#[]⟩]) (t := 33) (Sep.setBox (cs := #[.int .i64 4, .int .i64 0, .string ⟨#[]⟩]) (t := 33) (Sep.setBox (cs := #[.int .i64 0, .int .i64 0, .string ⟨#[]⟩]) (t := 33) T195 1 rfl 0 (.int .i64 4)) 1 rfl 1 (.int .i64 5)) 1 rfl 2 (.string ⟨#[]⟩))
            try simp only [size_drew, World.size_alloc] at T196
            refine hK.out _ _ (KbaseE.out _ [_, _, _] T196) (fun hH => ?_)
            clear hK K
            refine readyT [12] ?_
            refine consT (fun K hK => ?_) AllReadyH.nil
            have hz := T196.box 2 rfl
            have z0 := cellAt hz 0 (v := .string ⟨#[]⟩) rfl
            have z1 := cellAt hz 1 (v := .int .i64 0) rfl
            have z2 := cellAt hz 2 (v := .int .i64 0) rfl
            have z3 := cellAt hz 3 (v := .string ⟨#[]⟩) rfl
            have z4 := cellAt hz 4 (v := .bool false) rfl
            have z5 := frozenAt hz 0
            have z6 := frozenAt hz 1
            have z7 := frozenAt hz 2
            have z8 := frozenAt hz 3
            have z9 := frozenAt hz 4
            go_simp
            clear hz z0 z1 z2 z3 z4 z5 z6 z7 z8 z9
            clear hH
            have T197 : Sep w ([refB _ 3, refB _ 5, excB _ ⟨#[]⟩] ++ baseE) _ := (Sep.setBox (cs := #[.string ⟨#[]⟩, .int .i64 0, .int .i64 0, .string ⟨#[]⟩, .bool false]) (t := 45) (Sep.setBox (cs := #[.string ⟨#[]⟩, .int .i64 0, .int .i64 0, .string ⟨#[]⟩, .bool false]) (t := 45) (Sep.setBox (cs := #[.string ⟨#[]⟩, .int .i64 0, .int .i64 0, .string ⟨#[]⟩, .bool false]) (t := 45) (Sep.setBox (cs := #[.string ⟨#[]⟩, .int .i64 0, .int .i64 0, .string ⟨#[]⟩, .bool false]) (t := 45) (Sep.setBox (cs := #[.string ⟨#[]⟩, .int .i64 0, .int .i64 0, .string ⟨#[]⟩, .bool false]) (t := 45) T196 2 rfl 0 (.string ⟨#[]⟩)) 2 rfl 1 (.int .i64 0)) 2 rfl 2 (.int .i64 0)) 2 rfl 3 (.string ⟨#[]⟩)) 2 rfl 4 (.bool false))
            try simp only [size_drew, World.size_alloc] at T197
            refine hK.out _ _ (KbaseE.out _ [_, _, _] T197) (fun hH => ?_)
            clear hK K
            refine wpAnyH_done (by kernel_rfl) ?_ _
            as_aux_lemma =>
              go_wp2_with fail
              go_meet
              exact ⟨[_, _, _], 2, 1, _, _, rfl, rfl, by decide, rfl, rfl, T197⟩
          · go_simp
            go_wp2_with (go_at_call 19; refine (KM.out _ [_, _] T192).mono ?_; rintro e w198 ⟨rfl, T198⟩)
            clear hH
            refine hK.out _ _ (KbaseD.out _ [_, _] T198) (fun hH => ?_)
            clear hK K
            refine readyT [2] ?_
            refine consT (fun K hK => ?_) AllReadyH.nil
            go_simp
            have T199 : Sep w ([refB _ 3, zeroB _, excB _ ⟨#[]⟩] ++ baseD) _ := Sep.alloc T198 (.cells #[.int .i64 4, .int .i64 3, .string ⟨#[]⟩] 33)
            try simp only [size_drew, World.size_alloc] at T199
            clear hH
            refine hK.out _ _ (KbaseD.out _ [_, _, _] T199) (fun hH => ?_)
            clear hK K
            refine readyT [5] ?_
            refine consT (fun K hK => ?_) AllReadyH.nil
            go_simp
            go_wp2_with (go_at_call 28; refine (KC.out _ [_, _, _] _ 0 rfl T199).mono ?_; rintro e w200 ⟨rfl, T200⟩)
            clear hH
            refine hK.out _ _ (KbaseE.out _ [_, _, _] T200) (fun hH => ?_)
            clear hK K
            refine takeT 6 hH (hy := .inl ⟨by rfl, by (intro w hSw; try obtain ⟨u0, u1, u2⟩ := hSw); (go_simp; try rfl)⟩) (h := ?_)
            simp only [Act.put, List.setIfInBounds_toArray, List.set_cons_zero, List.set_cons_succ]
            refine takeT 7 hH (hy := .inl ⟨by rfl, by (intro w hSw; try obtain ⟨u0, u1, u2⟩ := hSw); (go_simp; try rfl)⟩) (h := ?_)
            simp only [Act.put, List.setIfInBounds_toArray, List.set_cons_zero, List.set_cons_succ]
            refine takeT 8 hH (hy := .inl ⟨by rfl, by (intro w hSw; try obtain ⟨u0, u1, u2⟩ := hSw); (go_simp; try rfl)⟩) (h := ?_)
            simp only [Act.put, List.setIfInBounds_toArray, List.set_cons_zero, List.set_cons_succ]
            refine readyT [11] ?_
            refine consT (fun K hK => ?_) AllReadyH.nil
            have hz := T200.box 1 rfl
            have z0 := cellAt hz 0 (v := .int .i64 0) rfl
            have z1 := cellAt hz 1 (v := .int .i64 0) rfl
            have z2 := cellAt hz 2 (v := .string ⟨#[]⟩) rfl
            have z3 := frozenAt hz 0
            have z4 := frozenAt hz 1
            have z5 := frozenAt hz 2
            go_simp
            clear hz z0 z1 z2 z3 z4 z5
            clear hH
            have T201 : Sep w ([refB _ 3, refB _ 5, excB _ ⟨#[]⟩] ++ baseE) _ := (Sep.setBox (cs := #[.int .i64 4, .int .i64 5, .string ⟨#[]⟩]) (t := 33) (Sep.setBox (cs := #[.int .i64 4, .int .i64 0, .string ⟨#[]⟩]) (t := 33) (Sep.setBox (cs := #[.int .i64 0, .int .i64 0, .string ⟨#[]⟩]) (t := 33) T200 1 rfl 0 (.int .i64 4)) 1 rfl 1 (.int .i64 5)) 1 rfl 2 (.string ⟨#[]⟩))
            try simp only [size_drew, World.size_alloc] at T201
            refine hK.out _ _ (KbaseE.out _ [_, _, _] T201) (fun hH => ?_)
            clear hK K
            refine readyT [12] ?_
            refine consT (fun K hK => ?_) AllReadyH.nil
            have hz := T201.box 2 rfl
            have z0 := cellAt hz 0 (v := .string ⟨#[]⟩) rfl
            have z1 := cellAt hz 1 (v := .int .i64 0) rfl
            have z2 := cellAt hz 2 (v := .int .i64 0) rfl
            have z3 := cellAt hz 3 (v := .string ⟨#[]⟩) rfl
            have z4 := cellAt hz 4 (v := .bool false) rfl
            have z5 := frozenAt hz 0
            have z6 := frozenAt hz 1
            have z7 := frozenAt hz 2
            have z8 := frozenAt hz 3
            have z9 := frozenAt hz 4
            go_simp
            clear hz z0 z1 z2 z3 z4 z5 z6 z7 z8 z9
            clear hH
            have T202 : Sep w ([refB _ 3, refB _ 5, excB _ ⟨#[]⟩] ++ baseE) _ := (Sep.setBox (cs := #[.string ⟨#[]⟩, .int .i64 0, .int .i64 0, .string ⟨#[]⟩, .bool false]) (t := 45) (Sep.setBox (cs := #[.string ⟨#[]⟩, .int .i64 0, .int .i64 0, .string ⟨#[]⟩, .bool false]) (t := 45) (Sep.setBox (cs := #[.string ⟨#[]⟩, .int .i64 0, .int .i64 0, .string ⟨#[]⟩, .bool false]) (t := 45) (Sep.setBox (cs := #[.string ⟨#[]⟩, .int .i64 0, .int .i64 0, .string ⟨#[]⟩, .bool false]) (t := 45) (Sep.setBox (cs := #[.string ⟨#[]⟩, .int .i64 0, .int .i64 0, .string ⟨#[]⟩, .bool false]) (t := 45) T201 2 rfl 0 (.string ⟨#[]⟩)) 2 rfl 1 (.int .i64 0)) 2 rfl 2 (.int .i64 0)) 2 rfl 3 (.string ⟨#[]⟩)) 2 rfl 4 (.bool false))
            try simp only [size_drew, World.size_alloc] at T202
            refine hK.out _ _ (KbaseE.out _ [_, _, _] T202) (fun hH => ?_)
            clear hK K
            refine wpAnyH_done (by kernel_rfl) ?_ _
            as_aux_lemma =>
              go_wp2_with fail
              go_meet
              exact ⟨[_, _, _], 2, 1, _, _, rfl, rfl, by decide, rfl, rfl, T202⟩
    case rest =>
      obtain ⟨Q, i, j, x6, x7, rfl, rfl, hij, hi, hj, T⟩ := hcut
      have S := T.two i j hij hi hj
      rw [HbaseE.out] at S
      replace S : Sep w [boxR x7 (.cells #[.string ⟨#[]⟩, .int .i64 0, .int .i64 0, .string ⟨#[]⟩, .bool false] 45), boxR x6 (.cells #[.int .i64 4, .int .i64 5, .string ⟨#[]⟩] 33), boxR (x4 + 1) (.cells #[.string ⟨#[]⟩, .int .i64 0, .int .i64 0, .string ⟨#[]⟩, .bool false] 45), boxR x4 (.cells #[.int .i64 4, .int .i64 3, .string ⟨#[]⟩] 33), boxR x3 (.cells #[.int .i64 4, .int .i64 2, .string ⟨#[]⟩] 33), boxR x2 (.cells #[.int .i64 4, .int .i64 1, .string ⟨#[]⟩] 33), heapR h KO.H6] _ := S
      clear KM KC KbaseC KbaseD KbaseE T hi hj hij
      have d0 := cellAt (S.box 3 rfl) 0 (v := .int .i64 4) rfl
      have d1 := cellAt (S.box 3 rfl) 1 (v := .int .i64 3) rfl
      have d2 := cellAt (S.box 3 rfl) 2 (v := .string ⟨#[]⟩) rfl
      have d3 := cellAt (S.box 1 rfl) 0 (v := .int .i64 4) rfl
      have d4 := cellAt (S.box 1 rfl) 1 (v := .int .i64 5) rfl
      have d5 := cellAt (S.box 1 rfl) 2 (v := .string ⟨#[]⟩) rfl
      have S2 := S.alloc (.cells #[.int .i64 4, .int .i64 3, .string ⟨#[]⟩, .int .i64 4, .int .i64 5, .string ⟨#[]⟩] 33)
      have e0 := cellAt (S2.box 6 rfl) 0 (v := .int .i64 4) rfl
      have e1 := cellAt (S2.box 6 rfl) 1 (v := .int .i64 1) rfl
      have e2 := cellAt (S2.box 6 rfl) 2 (v := .string ⟨#[]⟩) rfl
      have M := Lib.hid (ko_7 S2 (6 + 1) rfl _ 0 rfl)
      clear S
      clear S2
      go_wp2_with fail
      refine M.out.mono ?_
      rintro e w5 ⟨rfl, S⟩
      clear M d0 d1 d2 d3 d4 d5
      clear e0 e1 e2
      replace S := S.tail
      replace S : Sep w [boxR x7 (.cells #[.string ⟨#[]⟩, .int .i64 0, .int .i64 0, .string ⟨#[]⟩, .bool false] 45), boxR x6 (.cells #[.int .i64 4, .int .i64 5, .string ⟨#[]⟩] 33), boxR (x4 + 1) (.cells #[.string ⟨#[]⟩, .int .i64 0, .int .i64 0, .string ⟨#[]⟩, .bool false] 45), boxR x4 (.cells #[.int .i64 4, .int .i64 3, .string ⟨#[]⟩] 33), boxR x3 (.cells #[.int .i64 4, .int .i64 2, .string ⟨#[]⟩] 33), boxR x2 (.cells #[.int .i64 4, .int .i64 1, .string ⟨#[]⟩] 33), heapR h KO.H6] w5 := S
      obtain ⟨x8, hx8⟩ : ∃ gx_, (w5.heap.size) = gx_ := ⟨_, rfl⟩
      replace S := ((S.alloc (.cells #[.int .i64 0, .int .i64 0, .string ⟨#[]⟩] 33)).alloc (.cells #[.string typeError, .int .i64 0, .int .i64 0, .string ⟨#[]⟩, .bool false] 45))
      simp only [World.size_alloc, hx8] at S
      replace S : Sep w [boxR (x8 + 1) (.cells #[.string typeError, .int .i64 0, .int .i64 0, .string ⟨#[]⟩, .bool false] 45), boxR x8 (.cells #[.int .i64 0, .int .i64 0, .string ⟨#[]⟩] 33), boxR x7 (.cells #[.string ⟨#[]⟩, .int .i64 0, .int .i64 0, .string ⟨#[]⟩, .bool false] 45), boxR x6 (.cells #[.int .i64 4, .int .i64 5, .string ⟨#[]⟩] 33), boxR (x4 + 1) (.cells #[.string ⟨#[]⟩, .int .i64 0, .int .i64 0, .string ⟨#[]⟩, .bool false] 45), boxR x4 (.cells #[.int .i64 4, .int .i64 3, .string ⟨#[]⟩] 33), boxR x3 (.cells #[.int .i64 4, .int .i64 2, .string ⟨#[]⟩] 33), boxR x2 (.cells #[.int .i64 4, .int .i64 1, .string ⟨#[]⟩] 33), heapR h KO.H6] _ := S
      have d0 := cellAt (S.box 3 rfl) 0 (v := .int .i64 4) rfl
      have d1 := cellAt (S.box 3 rfl) 1 (v := .int .i64 5) rfl
      have d2 := cellAt (S.box 3 rfl) 2 (v := .string ⟨#[]⟩) rfl
      have M := Lib.hid (ko_8 S 8 rfl)
      clear S
      go_wp2_with fail
      try simp only [hx8]
      refine M.out.mono ?_
      rintro e w6 ⟨rfl, S⟩
      clear M d0 d1 d2 hx8
      replace S : Sep w [boxR (x8 + 1) (.cells #[.string typeError, .int .i64 0, .int .i64 0, .string ⟨#[]⟩, .bool false] 45), boxR x8 (.cells #[.int .i64 0, .int .i64 0, .string ⟨#[]⟩] 33), boxR x7 (.cells #[.string ⟨#[]⟩, .int .i64 0, .int .i64 0, .string ⟨#[]⟩, .bool false] 45), boxR x6 (.cells #[.int .i64 4, .int .i64 5, .string ⟨#[]⟩] 33), boxR (x4 + 1) (.cells #[.string ⟨#[]⟩, .int .i64 0, .int .i64 0, .string ⟨#[]⟩, .bool false] 45), boxR x4 (.cells #[.int .i64 4, .int .i64 3, .string ⟨#[]⟩] 33), boxR x3 (.cells #[.int .i64 4, .int .i64 2, .string ⟨#[]⟩] 33), boxR x2 (.cells #[.int .i64 4, .int .i64 1, .string ⟨#[]⟩] 33), heapR h KO.H7] w6 := S
      obtain ⟨x10, hx10⟩ : ∃ gx_, (w6.heap.size) = gx_ := ⟨_, rfl⟩
      replace S := (S.alloc (.cells #[.int .i64 4, .int .i64 6, .string ⟨#[]⟩] 33))
      simp only [World.size_alloc, hx10] at S
      replace S : Sep w [boxR x10 (.cells #[.int .i64 4, .int .i64 6, .string ⟨#[]⟩] 33), boxR (x8 + 1) (.cells #[.string typeError, .int .i64 0, .int .i64 0, .string ⟨#[]⟩, .bool false] 45), boxR x8 (.cells #[.int .i64 0, .int .i64 0, .string ⟨#[]⟩] 33), boxR x7 (.cells #[.string ⟨#[]⟩, .int .i64 0, .int .i64 0, .string ⟨#[]⟩, .bool false] 45), boxR x6 (.cells #[.int .i64 4, .int .i64 5, .string ⟨#[]⟩] 33), boxR (x4 + 1) (.cells #[.string ⟨#[]⟩, .int .i64 0, .int .i64 0, .string ⟨#[]⟩, .bool false] 45), boxR x4 (.cells #[.int .i64 4, .int .i64 3, .string ⟨#[]⟩] 33), boxR x3 (.cells #[.int .i64 4, .int .i64 2, .string ⟨#[]⟩] 33), boxR x2 (.cells #[.int .i64 4, .int .i64 1, .string ⟨#[]⟩] 33), heapR h KO.H7] _ := S
      have d0 := cellAt (S.box 0 rfl) 0 (v := .int .i64 4) rfl
      have d1 := cellAt (S.box 0 rfl) 1 (v := .int .i64 6) rfl
      have d2 := cellAt (S.box 0 rfl) 2 (v := .string ⟨#[]⟩) rfl
      have M := Lib.hid (ko_9 S 9 rfl)
      clear S
      go_wp2_with fail
      try simp only [hx10]
      refine M.out.mono ?_
      rintro e w7 ⟨rfl, S⟩
      clear M d0 d1 d2 hx10
      replace S : Sep w [boxR x10 (.cells #[.int .i64 4, .int .i64 6, .string ⟨#[]⟩] 33), boxR (x8 + 1) (.cells #[.string typeError, .int .i64 0, .int .i64 0, .string ⟨#[]⟩, .bool false] 45), boxR x8 (.cells #[.int .i64 0, .int .i64 0, .string ⟨#[]⟩] 33), boxR x7 (.cells #[.string ⟨#[]⟩, .int .i64 0, .int .i64 0, .string ⟨#[]⟩, .bool false] 45), boxR x6 (.cells #[.int .i64 4, .int .i64 5, .string ⟨#[]⟩] 33), boxR (x4 + 1) (.cells #[.string ⟨#[]⟩, .int .i64 0, .int .i64 0, .string ⟨#[]⟩, .bool false] 45), boxR x4 (.cells #[.int .i64 4, .int .i64 3, .string ⟨#[]⟩] 33), boxR x3 (.cells #[.int .i64 4, .int .i64 2, .string ⟨#[]⟩] 33), boxR x2 (.cells #[.int .i64 4, .int .i64 1, .string ⟨#[]⟩] 33), heapR h KO.H8] w7 := S
      obtain ⟨x12, hx12⟩ : ∃ gx_, (w7.heap.size) = gx_ := ⟨_, rfl⟩
      replace S := ((S.alloc (.cells #[.int .i64 4, .int .i64 7, .string ⟨#[]⟩] 33)).alloc (.cells #[.string ⟨#[]⟩, .int .i64 0, .int .i64 0, .string ⟨#[]⟩, .bool false] 45))
      simp only [World.size_alloc, hx12] at S
      replace S : Sep w [boxR (x12 + 1) (.cells #[.string ⟨#[]⟩, .int .i64 0, .int .i64 0, .string ⟨#[]⟩, .bool false] 45), boxR x12 (.cells #[.int .i64 4, .int .i64 7, .string ⟨#[]⟩] 33), boxR x10 (.cells #[.int .i64 4, .int .i64 6, .string ⟨#[]⟩] 33), boxR (x8 + 1) (.cells #[.string typeError, .int .i64 0, .int .i64 0, .string ⟨#[]⟩, .bool false] 45), boxR x8 (.cells #[.int .i64 0, .int .i64 0, .string ⟨#[]⟩] 33), boxR x7 (.cells #[.string ⟨#[]⟩, .int .i64 0, .int .i64 0, .string ⟨#[]⟩, .bool false] 45), boxR x6 (.cells #[.int .i64 4, .int .i64 5, .string ⟨#[]⟩] 33), boxR (x4 + 1) (.cells #[.string ⟨#[]⟩, .int .i64 0, .int .i64 0, .string ⟨#[]⟩, .bool false] 45), boxR x4 (.cells #[.int .i64 4, .int .i64 3, .string ⟨#[]⟩] 33), boxR x3 (.cells #[.int .i64 4, .int .i64 2, .string ⟨#[]⟩] 33), boxR x2 (.cells #[.int .i64 4, .int .i64 1, .string ⟨#[]⟩] 33), heapR h KO.H8] _ := S
      have d0 := cellAt (S.box 2 rfl) 0 (v := .int .i64 4) rfl
      have d1 := cellAt (S.box 2 rfl) 1 (v := .int .i64 6) rfl
      have d2 := cellAt (S.box 2 rfl) 2 (v := .string ⟨#[]⟩) rfl
      have M := Lib.hid (ko_10 S 11 rfl)
      clear S
      go_wp2_with fail
      try simp only [hx12]
      refine M.out.mono ?_
      rintro e w8 ⟨rfl, S⟩
      clear M d0 d1 d2 hx12
      replace S : Sep w [boxR (x12 + 1) (.cells #[.string ⟨#[]⟩, .int .i64 0, .int .i64 0, .string ⟨#[]⟩, .bool false] 45), boxR x12 (.cells #[.int .i64 4, .int .i64 7, .string ⟨#[]⟩] 33), boxR x10 (.cells #[.int .i64 4, .int .i64 6, .string ⟨#[]⟩] 33), boxR (x8 + 1) (.cells #[.string typeError, .int .i64 0, .int .i64 0, .string ⟨#[]⟩, .bool false] 45), boxR x8 (.cells #[.int .i64 0, .int .i64 0, .string ⟨#[]⟩] 33), boxR x7 (.cells #[.string ⟨#[]⟩, .int .i64 0, .int .i64 0, .string ⟨#[]⟩, .bool false] 45), boxR x6 (.cells #[.int .i64 4, .int .i64 5, .string ⟨#[]⟩] 33), boxR (x4 + 1) (.cells #[.string ⟨#[]⟩, .int .i64 0, .int .i64 0, .string ⟨#[]⟩, .bool false] 45), boxR x4 (.cells #[.int .i64 4, .int .i64 3, .string ⟨#[]⟩] 33), boxR x3 (.cells #[.int .i64 4, .int .i64 2, .string ⟨#[]⟩] 33), boxR x2 (.cells #[.int .i64 4, .int .i64 1, .string ⟨#[]⟩] 33), heapR h KO.H8] w8 := S
      obtain ⟨x14, hx14⟩ : ∃ gx_, (w8.heap.size) = gx_ := ⟨_, rfl⟩
      replace S := ((S.alloc (.cells #[.int .i64 0, .int .i64 0, .string ⟨#[]⟩] 33)).alloc (.cells #[.string attrError, .int .i64 3, .int .i64 0, .string ⟨#[103]⟩, .bool true] 45))
      simp only [World.size_alloc, hx14] at S
      replace S : Sep w [boxR (x14 + 1) (.cells #[.string attrError, .int .i64 3, .int .i64 0, .string ⟨#[103]⟩, .bool true] 45), boxR x14 (.cells #[.int .i64 0, .int .i64 0, .string ⟨#[]⟩] 33), boxR (x12 + 1) (.cells #[.string ⟨#[]⟩, .int .i64 0, .int .i64 0, .string ⟨#[]⟩, .bool false] 45), boxR x12 (.cells #[.int .i64 4, .int .i64 7, .string ⟨#[]⟩] 33), boxR x10 (.cells #[.int .i64 4, .int .i64 6, .string ⟨#[]⟩] 33), boxR (x8 + 1) (.cells #[.string typeError, .int .i64 0, .int .i64 0, .string ⟨#[]⟩, .bool false] 45), boxR x8 (.cells #[.int .i64 0, .int .i64 0, .string ⟨#[]⟩] 33), boxR x7 (.cells #[.string ⟨#[]⟩, .int .i64 0, .int .i64 0, .string ⟨#[]⟩, .bool false] 45), boxR x6 (.cells #[.int .i64 4, .int .i64 5, .string ⟨#[]⟩] 33), boxR (x4 + 1) (.cells #[.string ⟨#[]⟩, .int .i64 0, .int .i64 0, .string ⟨#[]⟩, .bool false] 45), boxR x4 (.cells #[.int .i64 4, .int .i64 3, .string ⟨#[]⟩] 33), boxR x3 (.cells #[.int .i64 4, .int .i64 2, .string ⟨#[]⟩] 33), boxR x2 (.cells #[.int .i64 4, .int .i64 1, .string ⟨#[]⟩] 33), heapR h KO.H8] _ := S
      obtain ⟨baseF, hbaseF⟩ : ∃ base, base = [boxR (x14 + 1) (.cells #[.string attrError, .int .i64 3, .int .i64 0, .string ⟨#[103]⟩, .bool true] 45), boxR x14 (.cells #[.int .i64 0, .int .i64 0, .string ⟨#[]⟩] 33), boxR (x12 + 1) (.cells #[.string ⟨#[]⟩, .int .i64 0, .int .i64 0, .string ⟨#[]⟩, .bool false] 45), boxR x12 (.cells #[.int .i64 4, .int .i64 7, .string ⟨#[]⟩] 33), boxR x10 (.cells #[.int .i64 4, .int .i64 6, .string ⟨#[]⟩] 33), boxR (x8 + 1) (.cells #[.string typeError, .int .i64 0, .int .i64 0, .string ⟨#[]⟩, .bool false] 45), boxR x8 (.cells #[.int .i64 0, .int .i64 0, .string ⟨#[]⟩] 33), boxR x7 (.cells #[.string ⟨#[]⟩, .int .i64 0, .int .i64 0, .string ⟨#[]⟩, .bool false] 45), boxR x6 (.cells #[.int .i64 4, .int .i64 5, .string ⟨#[]⟩] 33), boxR (x4 + 1) (.cells #[.string ⟨#[]⟩, .int .i64 0, .int .i64 0, .string ⟨#[]⟩, .bool false] 45), boxR x4 (.cells #[.int .i64 4, .int .i64 3, .string ⟨#[]⟩] 33), boxR x3 (.cells #[.int .i64 4, .int .i64 2, .string ⟨#[]⟩] 33), boxR x2 (.cells #[.int .i64 4, .int .i64 1, .string ⟨#[]⟩] 33), heapR h KO.H8] := ⟨_, rfl⟩
      have HbaseF := Lib.hid hbaseF
      obtain ⟨baseG, hbaseG⟩ : ∃ base, base = [boxR (x14 + 1) (.cells #[.string attrError, .int .i64 3, .int .i64 0, .string ⟨#[103]⟩, .bool true] 45), boxR x14 (.cells #[.int .i64 0, .int .i64 0, .string ⟨#[]⟩] 33), boxR (x12 + 1) (.cells #[.string ⟨#[]⟩, .int .i64 0, .int .i64 0, .string ⟨#[]⟩, .bool false] 45), boxR x12 (.cells #[.int .i64 4, .int .i64 7, .string ⟨#[]⟩] 33), boxR x10 (.cells #[.int .i64 4, .int .i64 6, .string ⟨#[]⟩] 33), boxR (x8 + 1) (.cells #[.string typeError, .int .i64 0, .int .i64 0, .string ⟨#[]⟩, .bool false] 45), boxR x8 (.cells #[.int .i64 0, .int .i64 0, .string ⟨#[]⟩] 33), boxR x7 (.cells #[.string ⟨#[]⟩, .int .i64 0, .int .i64 0, .string ⟨#[]⟩, .bool false] 45), boxR x6 (.cells #[.int .i64 4, .int .i64 5, .string ⟨#[]⟩] 33), boxR (x4 + 1) (.cells #[.string ⟨#[]⟩, .int .i64 0, .int .i64 0, .string ⟨#[]⟩, .bool false] 45), boxR x4 (.cells #[.int .i64 4, .int .i64 3, .string ⟨#[]⟩] 33), boxR x3 (.cells #[.int .i64 4, .int .i64 2, .string ⟨#[]⟩] 33), boxR x2 (.cells #[.int .i64 4, .int .i64 1, .string ⟨#[]⟩] 33), heapR h KO.H9] := ⟨_, rfl⟩
      have HbaseG := Lib.hid hbaseG
      replace S : Sep w baseF ((w8.alloc (.cells #[.int .i64 0, .int .i64 0, .string ⟨#[]⟩] 33)).alloc (.cells #[.string attrError, .int .i64 3, .int .i64 0, .string ⟨#[103]⟩, .bool true] 45)) := by rw [hbaseF]; exact S
      have KN : Hid (∀ W (Q : List Res), Sep w (Q ++ baseF) W → Calls Try.prog 29 #[.int .i64 3] W fun e W' => e = .returned (.agg #[.int .i64 2, .int .i64 3, .string ⟨#[]⟩]) ∧ Sep w (Q ++ baseF) W') := Lib.hid fun W Q T => by
        exact (num_ok W _).mono fun e W' ⟨e1, e2⟩ => ⟨e1, T.later e2⟩
      have KT : Hid (∀ W (Q : List Res), Sep w (Q ++ baseF) W → Calls Try.prog 20 #[.pointer (some ⟨h, 0, none⟩), .agg #[.int .i64 4, .int .i64 6, .string ⟨#[]⟩], .string ⟨#[102]⟩, .agg #[.int .i64 2, .int .i64 3, .string ⟨#[]⟩]] W fun e W' => e = .returned (excZ) ∧ Sep w (Q ++ baseG) W') := Lib.hid fun W Q T => by
        rw [HbaseF.out] at T
        rw [HbaseG.out]
        have hh := ko_11 T (Q.length + 13) (by rw [List.getElem?_append_right (by omega), Nat.add_sub_cancel_left]; rfl)
        try rw [List.set_append_right _ _ (by omega), Nat.add_sub_cancel_left] at hh
        exact hh
      have KbaseF : Hid (∀ W (Q : List Res), Sep w (Q ++ baseF) W → W.cell? ⟨x10, 0, none⟩ = some (.int .i64 4) ∧ W.cell? ⟨x10, 1, none⟩ = some (.int .i64 6) ∧ W.cell? ⟨x10, 2, none⟩ = some (.string ⟨#[]⟩)) := Lib.hid fun W Q T => by
        rw [hbaseF] at T
        have i0 := T.box (b := x10) (o := .cells #[.int .i64 4, .int .i64 6, .string ⟨#[]⟩] 33) (Q.length + 4) (by rw [List.getElem?_append_right (by omega), Nat.add_sub_cancel_left]; rfl)
        exact ⟨cellAt i0 0 rfl, cellAt i0 1 rfl, cellAt i0 2 rfl⟩
      have KbaseG : Hid (∀ W (Q : List Res), Sep w (Q ++ baseG) W → W.cell? ⟨x10, 0, none⟩ = some (.int .i64 4) ∧ W.cell? ⟨x10, 1, none⟩ = some (.int .i64 6) ∧ W.cell? ⟨x10, 2, none⟩ = some (.string ⟨#[]⟩)) := Lib.hid fun W Q T => by
        rw [hbaseG] at T
        have i0 := T.box (b := x10) (o := .cells #[.int .i64 4, .int .i64 6, .string ⟨#[]⟩] 33) (Q.length + 4) (by rw [List.getElem?_append_right (by omega), Nat.add_sub_cancel_left]; rfl)
        exact ⟨cellAt i0 0 rfl, cellAt i0 1 rfl, cellAt i0 2 rfl⟩
      replace S := Lib.hid S
      clear hbaseF hbaseG
      go_upto_region 13 with fail
      try simp only [hx14]
      obtain ⟨W13, hW⟩ : ∃ gx_, ((w8.alloc (.cells #[.int .i64 0, .int .i64 0, .string ⟨#[]⟩] 33)).alloc (.cells #[.string attrError, .int .i64 3, .int .i64 0, .string ⟨#[103]⟩, .bool true] 45)) = gx_ := ⟨_, rfl⟩
      rw [hW] at S ⊢
      clear hW hx14
      go_cut [16] from 21 (fun s16 wx => ∃ x16, s16 = .pointer (some ⟨x16, 0, none⟩) ∧ Sep w (boxR x16 (.cells #[.string ⟨#[]⟩, .int .i64 0, .int .i64 0, .string ⟨#[]⟩, .bool false] 45) :: baseG) wx)
      case first =>
        have T0 : Sep w ([] ++ baseF) _ := S.out.drew
        clear S
        as_aux_lemma =>
          refine wp_region_held_drew (S := fun W => W.cell? ⟨x10, 0, none⟩ = some (.int .i64 4) ∧ W.cell? ⟨x10, 1, none⟩ = some (.int .i64 6) ∧ W.cell? ⟨x10, 2, none⟩ = some (.string ⟨#[]⟩)) (by kernel_rfl) (KbaseF.out _ [] T0) (fun hH => ?_)
          refine takeT 0 hH (hy := .inl ⟨by rfl, by (intro w hSw; try obtain ⟨u0, u1, u2⟩ := hSw); (go_simp; try rfl)⟩) (h := ?_)
          simp only [Act.put, List.setIfInBounds_toArray, List.set_cons_zero, List.set_cons_succ]
          refine takeT 1 hH (hy := .inl ⟨by rfl, by (intro w hSw; try obtain ⟨u0, u1, u2⟩ := hSw); (go_simp; try rfl)⟩) (h := ?_)
          simp only [Act.put, List.setIfInBounds_toArray, List.set_cons_zero, List.set_cons_succ]
          refine readyT [2, 4] ?_
          refine consT (fun K hK => ?_) (consT (fun K hK => ?_) AllReadyH.nil)
          · go_simp
            go_wp2_with (go_at_call 29; refine (KN.out _ [] T0).mono ?_; rintro e w1 ⟨rfl, T1⟩)
            clear hH
            refine hK.out _ _ (KbaseF.out _ [] T1) (fun hH => ?_)
            clear hK K
            refine readyT [3, 4] ?_
            refine consT (fun K hK => ?_) (consT (fun K hK => ?_) AllReadyH.nil)
            · go_simp
              go_wp2_with (go_at_call 20; refine (KT.out _ [] T1).mono ?_; rintro e w2 ⟨rfl, T2⟩)
              clear hH
              refine hK.out _ _ (KbaseG.out _ [] T2) (fun hH => ?_)
              clear hK K
              refine readyT [4] ?_
              refine consT (fun K hK => ?_) AllReadyH.nil
              go_simp
              have T3 : Sep w ([excB _ ⟨#[]⟩] ++ baseG) _ := Sep.alloc T2 (.cells #[.string ⟨#[]⟩, .int .i64 0, .int .i64 0, .string ⟨#[]⟩, .bool false] 45)
              try simp only [size_drew, World.size_alloc] at T3
              clear hH
              refine hK.out _ _ (KbaseG.out _ [_] T3) (fun hH => ?_)
              clear hK K
              refine readyT [5] ?_
              refine consT (fun K hK => ?_) AllReadyH.nil
              have hz := T3.box 0 rfl
              have z0 := cellAt hz 0 (v := .string ⟨#[]⟩) rfl
              have z1 := cellAt hz 1 (v := .int .i64 0) rfl
              have z2 := cellAt hz 2 (v := .int .i64 0) rfl
              have z3 := cellAt hz 3 (v := .string ⟨#[]⟩) rfl
              have z4 := cellAt hz 4 (v := .bool false) rfl
              have z5 := frozenAt hz 0
              have z6 := frozenAt hz 1
              have z7 := frozenAt hz 2
              have z8 := frozenAt hz 3
              have z9 := frozenAt hz 4
              go_simp
              clear hz z0 z1 z2 z3 z4 z5 z6 z7 z8 z9
              clear hH
              have T4 : Sep w ([excB _ ⟨#[]⟩] ++ baseG) _ := (Sep.alloc T2 (.cells #[.string ⟨#[]⟩, .int .i64 0, .int .i64 0, .string ⟨#[]⟩, .bool false] 45))
              try simp only [size_drew, World.size_alloc] at T4
              refine hK.out _ _ (KbaseG.out _ [_] T4) (fun hH => ?_)
              clear hK K
              refine wpAnyH_done (by kernel_rfl) ?_ _
              as_aux_lemma =>
                go_wp2_with fail
                go_meet
                exact ⟨_, rfl, T4⟩
            · go_simp
              have T5 : Sep w ([excB _ ⟨#[]⟩] ++ baseF) _ := Sep.alloc T1 (.cells #[.string ⟨#[]⟩, .int .i64 0, .int .i64 0, .string ⟨#[]⟩, .bool false] 45)
              try simp only [size_drew, World.size_alloc] at T5
              clear hH
              refine hK.out _ _ (KbaseF.out _ [_] T5) (fun hH => ?_)
              clear hK K
              refine readyT [3] ?_
              refine consT (fun K hK => ?_) AllReadyH.nil
              go_simp
              go_wp2_with (go_at_call 20; refine (KT.out _ [_] T5).mono ?_; rintro e w6 ⟨rfl, T6⟩)
              clear hH
              refine hK.out _ _ (KbaseG.out _ [_] T6) (fun hH => ?_)
              clear hK K
              refine readyT [5] ?_
              refine consT (fun K hK => ?_) AllReadyH.nil
              have hz := T6.box 0 rfl
              have z0 := cellAt hz 0 (v := .string ⟨#[]⟩) rfl
              have z1 := cellAt hz 1 (v := .int .i64 0) rfl
              have z2 := cellAt hz 2 (v := .int .i64 0) rfl
              have z3 := cellAt hz 3 (v := .string ⟨#[]⟩) rfl
              have z4 := cellAt hz 4 (v := .bool false) rfl
              have z5 := frozenAt hz 0
              have z6 := frozenAt hz 1
              have z7 := frozenAt hz 2
              have z8 := frozenAt hz 3
              have z9 := frozenAt hz 4
              go_simp
              clear hz z0 z1 z2 z3 z4 z5 z6 z7 z8 z9
              clear hH
              have T7 : Sep w ([excB _ ⟨#[]⟩] ++ baseG) _ := (Sep.setBox (cs := #[.string ⟨#[]⟩, .int .i64 0, .int .i64 0, .string ⟨#[]⟩, .bool false]) (t := 45) (Sep.setBox (cs := #[.string ⟨#[]⟩, .int .i64 0, .int .i64 0, .string ⟨#[]⟩, .bool false]) (t := 45) (Sep.setBox (cs := #[.string ⟨#[]⟩, .int .i64 0, .int .i64 0, .string ⟨#[]⟩, .bool false]) (t := 45) (Sep.setBox (cs := #[.string ⟨#[]⟩, .int .i64 0, .int .i64 0, .string ⟨#[]⟩, .bool false]) (t := 45) (Sep.setBox (cs := #[.string ⟨#[]⟩, .int .i64 0, .int .i64 0, .string ⟨#[]⟩, .bool false]) (t := 45) T6 0 rfl 0 (.string ⟨#[]⟩)) 0 rfl 1 (.int .i64 0)) 0 rfl 2 (.int .i64 0)) 0 rfl 3 (.string ⟨#[]⟩)) 0 rfl 4 (.bool false))
              try simp only [size_drew, World.size_alloc] at T7
              refine hK.out _ _ (KbaseG.out _ [_] T7) (fun hH => ?_)
              clear hK K
              refine wpAnyH_done (by kernel_rfl) ?_ _
              as_aux_lemma =>
                go_wp2_with fail
                go_meet
                exact ⟨_, rfl, T7⟩
          · go_simp
            have T8 : Sep w ([excB _ ⟨#[]⟩] ++ baseF) _ := Sep.alloc T0 (.cells #[.string ⟨#[]⟩, .int .i64 0, .int .i64 0, .string ⟨#[]⟩, .bool false] 45)
            try simp only [size_drew, World.size_alloc] at T8
            clear hH
            refine hK.out _ _ (KbaseF.out _ [_] T8) (fun hH => ?_)
            clear hK K
            refine readyT [2] ?_
            refine consT (fun K hK => ?_) AllReadyH.nil
            go_simp
            go_wp2_with (go_at_call 29; refine (KN.out _ [_] T8).mono ?_; rintro e w9 ⟨rfl, T9⟩)
            clear hH
            refine hK.out _ _ (KbaseF.out _ [_] T9) (fun hH => ?_)
            clear hK K
            refine readyT [3] ?_
            refine consT (fun K hK => ?_) AllReadyH.nil
            go_simp
            go_wp2_with (go_at_call 20; refine (KT.out _ [_] T9).mono ?_; rintro e w10 ⟨rfl, T10⟩)
            clear hH
            refine hK.out _ _ (KbaseG.out _ [_] T10) (fun hH => ?_)
            clear hK K
            refine readyT [5] ?_
            refine consT (fun K hK => ?_) AllReadyH.nil
            have hz := T10.box 0 rfl
            have z0 := cellAt hz 0 (v := .string ⟨#[]⟩) rfl
            have z1 := cellAt hz 1 (v := .int .i64 0) rfl
            have z2 := cellAt hz 2 (v := .int .i64 0) rfl
            have z3 := cellAt hz 3 (v := .string ⟨#[]⟩) rfl
            have z4 := cellAt hz 4 (v := .bool false) rfl
            have z5 := frozenAt hz 0
            have z6 := frozenAt hz 1
            have z7 := frozenAt hz 2
            have z8 := frozenAt hz 3
            have z9 := frozenAt hz 4
            go_simp
            clear hz z0 z1 z2 z3 z4 z5 z6 z7 z8 z9
            clear hH
            have T11 : Sep w ([excB _ ⟨#[]⟩] ++ baseG) _ := (Sep.setBox (cs := #[.string ⟨#[]⟩, .int .i64 0, .int .i64 0, .string ⟨#[]⟩, .bool false]) (t := 45) (Sep.setBox (cs := #[.string ⟨#[]⟩, .int .i64 0, .int .i64 0, .string ⟨#[]⟩, .bool false]) (t := 45) (Sep.setBox (cs := #[.string ⟨#[]⟩, .int .i64 0, .int .i64 0, .string ⟨#[]⟩, .bool false]) (t := 45) (Sep.setBox (cs := #[.string ⟨#[]⟩, .int .i64 0, .int .i64 0, .string ⟨#[]⟩, .bool false]) (t := 45) (Sep.setBox (cs := #[.string ⟨#[]⟩, .int .i64 0, .int .i64 0, .string ⟨#[]⟩, .bool false]) (t := 45) T10 0 rfl 0 (.string ⟨#[]⟩)) 0 rfl 1 (.int .i64 0)) 0 rfl 2 (.int .i64 0)) 0 rfl 3 (.string ⟨#[]⟩)) 0 rfl 4 (.bool false))
            try simp only [size_drew, World.size_alloc] at T11
            refine hK.out _ _ (KbaseG.out _ [_] T11) (fun hH => ?_)
            clear hK K
            refine wpAnyH_done (by kernel_rfl) ?_ _
            as_aux_lemma =>
              go_wp2_with fail
              go_meet
              exact ⟨_, rfl, T11⟩
      case rest =>
        obtain ⟨x16, rfl, S⟩ := hcut
        rw [HbaseG.out] at S
        replace S : Sep w [boxR x16 (.cells #[.string ⟨#[]⟩, .int .i64 0, .int .i64 0, .string ⟨#[]⟩, .bool false] 45), boxR (x14 + 1) (.cells #[.string attrError, .int .i64 3, .int .i64 0, .string ⟨#[103]⟩, .bool true] 45), boxR x14 (.cells #[.int .i64 0, .int .i64 0, .string ⟨#[]⟩] 33), boxR (x12 + 1) (.cells #[.string ⟨#[]⟩, .int .i64 0, .int .i64 0, .string ⟨#[]⟩, .bool false] 45), boxR x12 (.cells #[.int .i64 4, .int .i64 7, .string ⟨#[]⟩] 33), boxR x10 (.cells #[.int .i64 4, .int .i64 6, .string ⟨#[]⟩] 33), boxR (x8 + 1) (.cells #[.string typeError, .int .i64 0, .int .i64 0, .string ⟨#[]⟩, .bool false] 45), boxR x8 (.cells #[.int .i64 0, .int .i64 0, .string ⟨#[]⟩] 33), boxR x7 (.cells #[.string ⟨#[]⟩, .int .i64 0, .int .i64 0, .string ⟨#[]⟩, .bool false] 45), boxR x6 (.cells #[.int .i64 4, .int .i64 5, .string ⟨#[]⟩] 33), boxR (x4 + 1) (.cells #[.string ⟨#[]⟩, .int .i64 0, .int .i64 0, .string ⟨#[]⟩, .bool false] 45), boxR x4 (.cells #[.int .i64 4, .int .i64 3, .string ⟨#[]⟩] 33), boxR x3 (.cells #[.int .i64 4, .int .i64 2, .string ⟨#[]⟩] 33), boxR x2 (.cells #[.int .i64 4, .int .i64 1, .string ⟨#[]⟩] 33), heapR h KO.H9] _ := S
        clear KN KT KbaseF KbaseG
        have d0 := cellAt (S.box 5 rfl) 0 (v := .int .i64 4) rfl
        have d1 := cellAt (S.box 5 rfl) 1 (v := .int .i64 6) rfl
        have d2 := cellAt (S.box 5 rfl) 2 (v := .string ⟨#[]⟩) rfl
        have M := Lib.hid (ko_12 S 14 rfl)
        clear S
        go_wp2_with fail
        refine M.out.mono ?_
        rintro e w9 ⟨rfl, S⟩
        clear M d0 d1 d2
        replace S : Sep w [boxR x16 (.cells #[.string ⟨#[]⟩, .int .i64 0, .int .i64 0, .string ⟨#[]⟩, .bool false] 45), boxR (x14 + 1) (.cells #[.string attrError, .int .i64 3, .int .i64 0, .string ⟨#[103]⟩, .bool true] 45), boxR x14 (.cells #[.int .i64 0, .int .i64 0, .string ⟨#[]⟩] 33), boxR (x12 + 1) (.cells #[.string ⟨#[]⟩, .int .i64 0, .int .i64 0, .string ⟨#[]⟩, .bool false] 45), boxR x12 (.cells #[.int .i64 4, .int .i64 7, .string ⟨#[]⟩] 33), boxR x10 (.cells #[.int .i64 4, .int .i64 6, .string ⟨#[]⟩] 33), boxR (x8 + 1) (.cells #[.string typeError, .int .i64 0, .int .i64 0, .string ⟨#[]⟩, .bool false] 45), boxR x8 (.cells #[.int .i64 0, .int .i64 0, .string ⟨#[]⟩] 33), boxR x7 (.cells #[.string ⟨#[]⟩, .int .i64 0, .int .i64 0, .string ⟨#[]⟩, .bool false] 45), boxR x6 (.cells #[.int .i64 4, .int .i64 5, .string ⟨#[]⟩] 33), boxR (x4 + 1) (.cells #[.string ⟨#[]⟩, .int .i64 0, .int .i64 0, .string ⟨#[]⟩, .bool false] 45), boxR x4 (.cells #[.int .i64 4, .int .i64 3, .string ⟨#[]⟩] 33), boxR x3 (.cells #[.int .i64 4, .int .i64 2, .string ⟨#[]⟩] 33), boxR x2 (.cells #[.int .i64 4, .int .i64 1, .string ⟨#[]⟩] 33), heapR h KO.H9] w9 := S
        obtain ⟨x17, hx17⟩ : ∃ gx_, (w9.heap.size) = gx_ := ⟨_, rfl⟩
        replace S := ((S.alloc (.cells #[.int .i64 2, .int .i64 3, .string ⟨#[]⟩] 33)).alloc (.cells #[.string ⟨#[]⟩, .int .i64 0, .int .i64 0, .string ⟨#[]⟩, .bool false] 45))
        simp only [World.size_alloc, hx17] at S
        replace S : Sep w [boxR (x17 + 1) (.cells #[.string ⟨#[]⟩, .int .i64 0, .int .i64 0, .string ⟨#[]⟩, .bool false] 45), boxR x17 (.cells #[.int .i64 2, .int .i64 3, .string ⟨#[]⟩] 33), boxR x16 (.cells #[.string ⟨#[]⟩, .int .i64 0, .int .i64 0, .string ⟨#[]⟩, .bool false] 45), boxR (x14 + 1) (.cells #[.string attrError, .int .i64 3, .int .i64 0, .string ⟨#[103]⟩, .bool true] 45), boxR x14 (.cells #[.int .i64 0, .int .i64 0, .string ⟨#[]⟩] 33), boxR (x12 + 1) (.cells #[.string ⟨#[]⟩, .int .i64 0, .int .i64 0, .string ⟨#[]⟩, .bool false] 45), boxR x12 (.cells #[.int .i64 4, .int .i64 7, .string ⟨#[]⟩] 33), boxR x10 (.cells #[.int .i64 4, .int .i64 6, .string ⟨#[]⟩] 33), boxR (x8 + 1) (.cells #[.string typeError, .int .i64 0, .int .i64 0, .string ⟨#[]⟩, .bool false] 45), boxR x8 (.cells #[.int .i64 0, .int .i64 0, .string ⟨#[]⟩] 33), boxR x7 (.cells #[.string ⟨#[]⟩, .int .i64 0, .int .i64 0, .string ⟨#[]⟩, .bool false] 45), boxR x6 (.cells #[.int .i64 4, .int .i64 5, .string ⟨#[]⟩] 33), boxR (x4 + 1) (.cells #[.string ⟨#[]⟩, .int .i64 0, .int .i64 0, .string ⟨#[]⟩, .bool false] 45), boxR x4 (.cells #[.int .i64 4, .int .i64 3, .string ⟨#[]⟩] 33), boxR x3 (.cells #[.int .i64 4, .int .i64 2, .string ⟨#[]⟩] 33), boxR x2 (.cells #[.int .i64 4, .int .i64 1, .string ⟨#[]⟩] 33), heapR h KO.H9] _ := S
        have d0 := cellAt (S.box 11 rfl) 0 (v := .int .i64 4) rfl
        have d1 := cellAt (S.box 11 rfl) 1 (v := .int .i64 5) rfl
        have d2 := cellAt (S.box 11 rfl) 2 (v := .string ⟨#[]⟩) rfl
        have M := Lib.hid (ko_13 S 16 rfl)
        clear S
        go_wp2_with fail
        try simp only [hx17]
        refine M.out.mono ?_
        rintro e w10 ⟨lv, rfl, S⟩
        clear M d0 d1 d2 hx17
        replace S : Sep w (valsR lv [KO.r5, KO.r3] :: [boxR (x17 + 1) (.cells #[.string ⟨#[]⟩, .int .i64 0, .int .i64 0, .string ⟨#[]⟩, .bool false] 45), boxR x17 (.cells #[.int .i64 2, .int .i64 3, .string ⟨#[]⟩] 33), boxR x16 (.cells #[.string ⟨#[]⟩, .int .i64 0, .int .i64 0, .string ⟨#[]⟩, .bool false] 45), boxR (x14 + 1) (.cells #[.string attrError, .int .i64 3, .int .i64 0, .string ⟨#[103]⟩, .bool true] 45), boxR x14 (.cells #[.int .i64 0, .int .i64 0, .string ⟨#[]⟩] 33), boxR (x12 + 1) (.cells #[.string ⟨#[]⟩, .int .i64 0, .int .i64 0, .string ⟨#[]⟩, .bool false] 45), boxR x12 (.cells #[.int .i64 4, .int .i64 7, .string ⟨#[]⟩] 33), boxR x10 (.cells #[.int .i64 4, .int .i64 6, .string ⟨#[]⟩] 33), boxR (x8 + 1) (.cells #[.string typeError, .int .i64 0, .int .i64 0, .string ⟨#[]⟩, .bool false] 45), boxR x8 (.cells #[.int .i64 0, .int .i64 0, .string ⟨#[]⟩] 33), boxR x7 (.cells #[.string ⟨#[]⟩, .int .i64 0, .int .i64 0, .string ⟨#[]⟩, .bool false] 45), boxR x6 (.cells #[.int .i64 4, .int .i64 5, .string ⟨#[]⟩] 33), boxR (x4 + 1) (.cells #[.string ⟨#[]⟩, .int .i64 0, .int .i64 0, .string ⟨#[]⟩, .bool false] 45), boxR x4 (.cells #[.int .i64 4, .int .i64 3, .string ⟨#[]⟩] 33), boxR x3 (.cells #[.int .i64 4, .int .i64 2, .string ⟨#[]⟩] 33), boxR x2 (.cells #[.int .i64 4, .int .i64 1, .string ⟨#[]⟩] 33), heapR h KO.H9]) w10 := S
        rcases (S.row 0 rfl).shape with ⟨_, h0⟩ | ⟨g, cap, rfl, q1, q2, q3⟩
        · cases h0
        simp only [List.length_cons, List.length_nil, Nat.zero_add, Nat.reduceAdd] at q1 S ⊢
        have hcap : (2 : Int) ≤ cap := by omega
        replace S : Sep w [valsR (.slice (some ⟨g, 0, none⟩) 2 cap) [KO.r5, KO.r3], boxR (x17 + 1) (.cells #[.string ⟨#[]⟩, .int .i64 0, .int .i64 0, .string ⟨#[]⟩, .bool false] 45), boxR x17 (.cells #[.int .i64 2, .int .i64 3, .string ⟨#[]⟩] 33), boxR x16 (.cells #[.string ⟨#[]⟩, .int .i64 0, .int .i64 0, .string ⟨#[]⟩, .bool false] 45), boxR (x14 + 1) (.cells #[.string attrError, .int .i64 3, .int .i64 0, .string ⟨#[103]⟩, .bool true] 45), boxR x14 (.cells #[.int .i64 0, .int .i64 0, .string ⟨#[]⟩] 33), boxR (x12 + 1) (.cells #[.string ⟨#[]⟩, .int .i64 0, .int .i64 0, .string ⟨#[]⟩, .bool false] 45), boxR x12 (.cells #[.int .i64 4, .int .i64 7, .string ⟨#[]⟩] 33), boxR x10 (.cells #[.int .i64 4, .int .i64 6, .string ⟨#[]⟩] 33), boxR (x8 + 1) (.cells #[.string typeError, .int .i64 0, .int .i64 0, .string ⟨#[]⟩, .bool false] 45), boxR x8 (.cells #[.int .i64 0, .int .i64 0, .string ⟨#[]⟩] 33), boxR x7 (.cells #[.string ⟨#[]⟩, .int .i64 0, .int .i64 0, .string ⟨#[]⟩, .bool false] 45), boxR x6 (.cells #[.int .i64 4, .int .i64 5, .string ⟨#[]⟩] 33), boxR (x4 + 1) (.cells #[.string ⟨#[]⟩, .int .i64 0, .int .i64 0, .string ⟨#[]⟩, .bool false] 45), boxR x4 (.cells #[.int .i64 4, .int .i64 3, .string ⟨#[]⟩] 33), boxR x3 (.cells #[.int .i64 4, .int .i64 2, .string ⟨#[]⟩] 33), boxR x2 (.cells #[.int .i64 4, .int .i64 1, .string ⟨#[]⟩] 33), heapR h KO.H9] w10 := S
        have d0 := cellAt (S.box 13 rfl) 0 (v := .string ⟨#[]⟩) rfl
        have d1 := cellAt (S.box 13 rfl) 1 (v := .int .i64 0) rfl
        have d2 := cellAt (S.box 13 rfl) 2 (v := .int .i64 0) rfl
        have d3 := cellAt (S.box 13 rfl) 3 (v := .string ⟨#[]⟩) rfl
        have d4 := cellAt (S.box 13 rfl) 4 (v := .bool false) rfl
        have d5 := cellAt (S.box 11 rfl) 0 (v := .string ⟨#[]⟩) rfl
        have d6 := cellAt (S.box 11 rfl) 1 (v := .int .i64 0) rfl
        have d7 := cellAt (S.box 11 rfl) 2 (v := .int .i64 0) rfl
        have d8 := cellAt (S.box 11 rfl) 3 (v := .string ⟨#[]⟩) rfl
        have d9 := cellAt (S.box 11 rfl) 4 (v := .bool false) rfl
        have d10 := cellAt (S.box 6 rfl) 0 (v := .string ⟨#[]⟩) rfl
        have d11 := cellAt (S.box 6 rfl) 1 (v := .int .i64 0) rfl
        have d12 := cellAt (S.box 6 rfl) 2 (v := .int .i64 0) rfl
        have d13 := cellAt (S.box 6 rfl) 3 (v := .string ⟨#[]⟩) rfl
        have d14 := cellAt (S.box 6 rfl) 4 (v := .bool false) rfl
        have d15 := cellAt (S.box 3 rfl) 0 (v := .string ⟨#[]⟩) rfl
        have d16 := cellAt (S.box 3 rfl) 1 (v := .int .i64 0) rfl
        have d17 := cellAt (S.box 3 rfl) 2 (v := .int .i64 0) rfl
        have d18 := cellAt (S.box 3 rfl) 3 (v := .string ⟨#[]⟩) rfl
        have d19 := cellAt (S.box 3 rfl) 4 (v := .bool false) rfl
        have d20 := cellAt (S.box 1 rfl) 0 (v := .string ⟨#[]⟩) rfl
        have d21 := cellAt (S.box 1 rfl) 1 (v := .int .i64 0) rfl
        have d22 := cellAt (S.box 1 rfl) 2 (v := .int .i64 0) rfl
        have d23 := cellAt (S.box 1 rfl) 3 (v := .string ⟨#[]⟩) rfl
        have d24 := cellAt (S.box 1 rfl) 4 (v := .bool false) rfl
        have EQ0 : ∀ W, (binOp .eql 45 excZ excZ).run Try.prog W = .ok (.bool true) W := fun W => by go_simp
        replace S := Lib.hid S
        go_upto_region 17 with fail
        clear d0 d1 d2 d3 d4 d5 d6 d7 d8 d9 d10 d11 d12 d13 d14 d15 d16 d17 d18 d19 d20 d21 d22 d23 d24 EQ0
        replace S := S.out
        obtain ⟨baseH, hbaseH⟩ : ∃ base, base = [valsR (.slice (some ⟨g, 0, none⟩) 2 cap) [KO.r5, KO.r3], boxR (x17 + 1) (.cells #[.string ⟨#[]⟩, .int .i64 0, .int .i64 0, .string ⟨#[]⟩, .bool false] 45), boxR x17 (.cells #[.int .i64 2, .int .i64 3, .string ⟨#[]⟩] 33), boxR x16 (.cells #[.string ⟨#[]⟩, .int .i64 0, .int .i64 0, .string ⟨#[]⟩, .bool false] 45), boxR (x14 + 1) (.cells #[.string attrError, .int .i64 3, .int .i64 0, .string ⟨#[103]⟩, .bool true] 45), boxR x14 (.cells #[.int .i64 0, .int .i64 0, .string ⟨#[]⟩] 33), boxR (x12 + 1) (.cells #[.string ⟨#[]⟩, .int .i64 0, .int .i64 0, .string ⟨#[]⟩, .bool false] 45), boxR x12 (.cells #[.int .i64 4, .int .i64 7, .string ⟨#[]⟩] 33), boxR x10 (.cells #[.int .i64 4, .int .i64 6, .string ⟨#[]⟩] 33), boxR (x8 + 1) (.cells #[.string typeError, .int .i64 0, .int .i64 0, .string ⟨#[]⟩, .bool false] 45), boxR x8 (.cells #[.int .i64 0, .int .i64 0, .string ⟨#[]⟩] 33), boxR x7 (.cells #[.string ⟨#[]⟩, .int .i64 0, .int .i64 0, .string ⟨#[]⟩, .bool false] 45), boxR x6 (.cells #[.int .i64 4, .int .i64 5, .string ⟨#[]⟩] 33), boxR (x4 + 1) (.cells #[.string ⟨#[]⟩, .int .i64 0, .int .i64 0, .string ⟨#[]⟩, .bool false] 45), boxR x4 (.cells #[.int .i64 4, .int .i64 3, .string ⟨#[]⟩] 33), boxR x3 (.cells #[.int .i64 4, .int .i64 2, .string ⟨#[]⟩] 33), boxR x2 (.cells #[.int .i64 4, .int .i64 1, .string ⟨#[]⟩] 33), heapR h KO.H9] := ⟨_, rfl⟩
        have HbaseH := Lib.hid hbaseH
        replace S : Sep w baseH (w10) := by rw [hbaseH]; exact S
        have EQ1 : ∀ W, (binOp .eql 45 (excA ⟨#[103]⟩) (excA ⟨#[103]⟩)).run Try.prog W = .ok (.bool true) W := fun W => by go_simp
        have KK : Hid (∀ W (Q : List Res), Sep w (Q ++ baseH) W → Calls Try.prog 23 #[.pointer (some ⟨h, 0, none⟩), .agg #[.int .i64 4, .int .i64 7, .string ⟨#[]⟩]] W fun e W' => e = .returned (.int .i64 7) ∧ Sep w (Q ++ baseH) W') := Lib.hid fun W Q T => by
          rw [HbaseH.out] at T
          rw [HbaseH.out]
          have hh := ko_14 T (Q.length + 17) (by rw [List.getElem?_append_right (by omega), Nat.add_sub_cancel_left]; rfl)
          try rw [List.set_append_right _ _ (by omega), Nat.add_sub_cancel_left] at hh
          exact hh
        have KG : Hid (∀ W (Q : List Res), Sep w (Q ++ baseH) W → Calls Try.prog 36 #[.string ⟨#[103]⟩] W fun e W' => e = .returned (.agg #[.int .i64 3, .int .i64 0, .string ⟨#[103]⟩]) ∧ Sep w (Q ++ baseH) W') := Lib.hid fun W Q T => by
          exact (str_ok W _).mono fun e W' ⟨e1, e2⟩ => ⟨e1, T.later e2⟩
        have KN : Hid (∀ W (Q : List Res), Sep w (Q ++ baseH) W → Calls Try.prog 29 #[.int .i64 3] W fun e W' => e = .returned (.agg #[.int .i64 2, .int .i64 3, .string ⟨#[]⟩]) ∧ Sep w (Q ++ baseH) W') := Lib.hid fun W Q T => by
          exact (num_ok W _).mono fun e W' ⟨e1, e2⟩ => ⟨e1, T.later e2⟩
        have KU : Hid (∀ W (Q : List Res), Sep w (Q ++ baseH) W → Calls Try.prog 14 #[.pointer (some ⟨h, 0, none⟩), .agg #[.int .i64 4, .int .i64 5, .string ⟨#[]⟩], .agg #[.int .i64 4, .int .i64 3, .string ⟨#[]⟩]] W fun e W' => e = .returned (.bool true) ∧ Sep w (Q ++ baseH) W') := Lib.hid fun W Q T => by
          rw [HbaseH.out] at T
          rw [HbaseH.out]
          have hh := ko_15 T (Q.length + 17) (by rw [List.getElem?_append_right (by omega), Nat.add_sub_cancel_left]; rfl)
          try rw [List.set_append_right _ _ (by omega), Nat.add_sub_cancel_left] at hh
          exact hh
        have KV : Hid (∀ W (Q : List Res), Sep w (Q ++ baseH) W → Calls Try.prog 14 #[.pointer (some ⟨h, 0, none⟩), .agg #[.int .i64 4, .int .i64 3, .string ⟨#[]⟩], .agg #[.int .i64 4, .int .i64 5, .string ⟨#[]⟩]] W fun e W' => e = .returned (.bool false) ∧ Sep w (Q ++ baseH) W') := Lib.hid fun W Q T => by
          rw [HbaseH.out] at T
          rw [HbaseH.out]
          have hh := ko_16 T (Q.length + 17) (by rw [List.getElem?_append_right (by omega), Nat.add_sub_cancel_left]; rfl)
          try rw [List.set_append_right _ _ (by omega), Nat.add_sub_cancel_left] at hh
          exact hh
        have KbaseH : Hid (∀ W (Q : List Res), Sep w (Q ++ baseH) W → W.cell? ⟨x8 + 1, 0, none⟩ = some (.string typeError) ∧ W.cell? ⟨x8 + 1, 1, none⟩ = some (.int .i64 0) ∧ W.cell? ⟨x8 + 1, 2, none⟩ = some (.int .i64 0) ∧ W.cell? ⟨x8 + 1, 3, none⟩ = some (.string ⟨#[]⟩) ∧ W.cell? ⟨x8 + 1, 4, none⟩ = some (.bool false) ∧ W.cell? ⟨x12, 0, none⟩ = some (.int .i64 4) ∧ W.cell? ⟨x12, 1, none⟩ = some (.int .i64 7) ∧ W.cell? ⟨x12, 2, none⟩ = some (.string ⟨#[]⟩) ∧ W.cell? ⟨x14 + 1, 0, none⟩ = some (.string attrError) ∧ W.cell? ⟨x14 + 1, 1, none⟩ = some (.int .i64 3) ∧ W.cell? ⟨x14 + 1, 2, none⟩ = some (.int .i64 0) ∧ W.cell? ⟨x14 + 1, 3, none⟩ = some (.string ⟨#[103]⟩) ∧ W.cell? ⟨x14 + 1, 4, none⟩ = some (.bool true) ∧ W.cell? ⟨x17, 0, none⟩ = some (.int .i64 2) ∧ W.cell? ⟨x17, 1, none⟩ = some (.int .i64 3) ∧ W.cell? ⟨x17, 2, none⟩ = some (.string ⟨#[]⟩) ∧ W.cell? ⟨x6, 0, none⟩ = some (.int .i64 4) ∧ W.cell? ⟨x6, 1, none⟩ = some (.int .i64 5) ∧ W.cell? ⟨x6, 2, none⟩ = some (.string ⟨#[]⟩) ∧ W.cell? ⟨x4, 0, none⟩ = some (.int .i64 4) ∧ W.cell? ⟨x4, 1, none⟩ = some (.int .i64 3) ∧ W.cell? ⟨x4, 2, none⟩ = some (.string ⟨#[]⟩) ∧ W.cell? ⟨g, 0, none⟩ = some (.int .i64 4) ∧ W.cell? ⟨g, 1, none⟩ = some (.int .i64 5) ∧ W.cell? ⟨g, 2, none⟩ = some (.string ⟨#[]⟩) ∧ W.cell? ⟨g, 3, none⟩ = some (.int .i64 4) ∧ W.cell? ⟨g, 4, none⟩ = some (.int .i64 3) ∧ W.cell? ⟨g, 5, none⟩ = some (.string ⟨#[]⟩)) := Lib.hid fun W Q T => by
          rw [hbaseH] at T
          have i0 := T.box (b := x8 + 1) (o := .cells #[.string typeError, .int .i64 0, .int .i64 0, .string ⟨#[]⟩, .bool false] 45) (Q.length + 9) (by rw [List.getElem?_append_right (by omega), Nat.add_sub_cancel_left]; rfl)
          have i1 := T.box (b := x12) (o := .cells #[.int .i64 4, .int .i64 7, .string ⟨#[]⟩] 33) (Q.length + 7) (by rw [List.getElem?_append_right (by omega), Nat.add_sub_cancel_left]; rfl)
          have i2 := T.box (b := x14 + 1) (o := .cells #[.string attrError, .int .i64 3, .int .i64 0, .string ⟨#[103]⟩, .bool true] 45) (Q.length + 4) (by rw [List.getElem?_append_right (by omega), Nat.add_sub_cancel_left]; rfl)
          have i3 := T.box (b := x17) (o := .cells #[.int .i64 2, .int .i64 3, .string ⟨#[]⟩] 33) (Q.length + 2) (by rw [List.getElem?_append_right (by omega), Nat.add_sub_cancel_left]; rfl)
          have i4 := T.box (b := x6) (o := .cells #[.int .i64 4, .int .i64 5, .string ⟨#[]⟩] 33) (Q.length + 12) (by rw [List.getElem?_append_right (by omega), Nat.add_sub_cancel_left]; rfl)
          have i5 := T.box (b := x4) (o := .cells #[.int .i64 4, .int .i64 3, .string ⟨#[]⟩] 33) (Q.length + 14) (by rw [List.getElem?_append_right (by omega), Nat.add_sub_cancel_left]; rfl)
          have i6 := T.row (α := V) (e := 33) (m := 3) (f := V.cells) (v := .slice (some ⟨g, 0, none⟩) 2 cap) (l := [KO.r5, KO.r3]) (Q.length + 0) (by rw [List.getElem?_append_right (by omega), Nat.add_sub_cancel_left]; rfl)
          exact ⟨cellAt i0 0 rfl, cellAt i0 1 rfl, cellAt i0 2 rfl, cellAt i0 3 rfl, cellAt i0 4 rfl, cellAt i1 0 rfl, cellAt i1 1 rfl, cellAt i1 2 rfl, cellAt i2 0 rfl, cellAt i2 1 rfl, cellAt i2 2 rfl, cellAt i2 3 rfl, cellAt i2 4 rfl, cellAt i3 0 rfl, cellAt i3 1 rfl, cellAt i3 2 rfl, cellAt i4 0 rfl, cellAt i4 1 rfl, cellAt i4 2 rfl, cellAt i5 0 rfl, cellAt i5 1 rfl, cellAt i5 2 rfl, slIs.cell (m := 3) (f := V.cells) (l := [KO.r5, KO.r3]) (fun _ => rfl) i6 rfl (i := 0) (j := 0) rfl rfl, slIs.cell (m := 3) (f := V.cells) (l := [KO.r5, KO.r3]) (fun _ => rfl) i6 rfl (i := 0) (j := 1) rfl rfl, slIs.cell (m := 3) (f := V.cells) (l := [KO.r5, KO.r3]) (fun _ => rfl) i6 rfl (i := 0) (j := 2) rfl rfl, slIs.cell (m := 3) (f := V.cells) (l := [KO.r5, KO.r3]) (fun _ => rfl) i6 rfl (i := 1) (j := 0) rfl rfl, slIs.cell (m := 3) (f := V.cells) (l := [KO.r5, KO.r3]) (fun _ => rfl) i6 rfl (i := 1) (j := 1) rfl rfl, slIs.cell (m := 3) (f := V.cells) (l := [KO.r5, KO.r3]) (fun _ => rfl) i6 rfl (i := 1) (j := 2) rfl rfl⟩
        replace S := Lib.hid S
        clear hbaseH
        go_upto_region 17 with fail
        go_cut [0] from 21 (fun s0 wx => s0 = .bool true ∧ Below w.heap.size w wx)
        case first =>
          have T0 : Sep w ([] ++ baseH) _ := S.out.drew
          clear S
          as_aux_lemma =>
            refine wp_region_held_drew (S := fun W => W.cell? ⟨x8 + 1, 0, none⟩ = some (.string typeError) ∧ W.cell? ⟨x8 + 1, 1, none⟩ = some (.int .i64 0) ∧ W.cell? ⟨x8 + 1, 2, none⟩ = some (.int .i64 0) ∧ W.cell? ⟨x8 + 1, 3, none⟩ = some (.string ⟨#[]⟩) ∧ W.cell? ⟨x8 + 1, 4, none⟩ = some (.bool false) ∧ W.cell? ⟨x12, 0, none⟩ = some (.int .i64 4) ∧ W.cell? ⟨x12, 1, none⟩ = some (.int .i64 7) ∧ W.cell? ⟨x12, 2, none⟩ = some (.string ⟨#[]⟩) ∧ W.cell? ⟨x14 + 1, 0, none⟩ = some (.string attrError) ∧ W.cell? ⟨x14 + 1, 1, none⟩ = some (.int .i64 3) ∧ W.cell? ⟨x14 + 1, 2, none⟩ = some (.int .i64 0) ∧ W.cell? ⟨x14 + 1, 3, none⟩ = some (.string ⟨#[103]⟩) ∧ W.cell? ⟨x14 + 1, 4, none⟩ = some (.bool true) ∧ W.cell? ⟨x17, 0, none⟩ = some (.int .i64 2) ∧ W.cell? ⟨x17, 1, none⟩ = some (.int .i64 3) ∧ W.cell? ⟨x17, 2, none⟩ = some (.string ⟨#[]⟩) ∧ W.cell? ⟨x6, 0, none⟩ = some (.int .i64 4) ∧ W.cell? ⟨x6, 1, none⟩ = some (.int .i64 5) ∧ W.cell? ⟨x6, 2, none⟩ = some (.string ⟨#[]⟩) ∧ W.cell? ⟨x4, 0, none⟩ = some (.int .i64 4) ∧ W.cell? ⟨x4, 1, none⟩ = some (.int .i64 3) ∧ W.cell? ⟨x4, 2, none⟩ = some (.string ⟨#[]⟩) ∧ W.cell? ⟨g, 0, none⟩ = some (.int .i64 4) ∧ W.cell? ⟨g, 1, none⟩ = some (.int .i64 5) ∧ W.cell? ⟨g, 2, none⟩ = some (.string ⟨#[]⟩) ∧ W.cell? ⟨g, 3, none⟩ = some (.int .i64 4) ∧ W.cell? ⟨g, 4, none⟩ = some (.int .i64 3) ∧ W.cell? ⟨g, 5, none⟩ = some (.string ⟨#[]⟩)) (by kernel_rfl) (KbaseH.out _ [] T0) (fun hH => ?_)
            refine takeT 0 hH (hy := .inl ⟨by rfl, by (intro w hSw; try obtain ⟨u0, u1, u2, u3, u4, u5, u6, u7, u8, u9, u10, u11, u12, u13, u14, u15, u16, u17, u18, u19, u20, u21, u22, u23, u24, u25, u26, u27⟩ := hSw); (go_simp; try rfl)⟩) (h := ?_)
            simp only [Act.put, List.setIfInBounds_toArray, List.set_cons_zero, List.set_cons_succ]
            refine takeT 1 hH (hy := .inl ⟨by rfl, by (intro w hSw; try obtain ⟨u0, u1, u2, u3, u4, u5, u6, u7, u8, u9, u10, u11, u12, u13, u14, u15, u16, u17, u18, u19, u20, u21, u22, u23, u24, u25, u26, u27⟩ := hSw); (go_simp; try rfl)⟩) (h := ?_)
            simp only [Act.put, List.setIfInBounds_toArray, List.set_cons_zero, List.set_cons_succ]
            refine takeT 2 hH (hy := .inl ⟨by rfl, by (intro w hSw; try obtain ⟨u0, u1, u2, u3, u4, u5, u6, u7, u8, u9, u10, u11, u12, u13, u14, u15, u16, u17, u18, u19, u20, u21, u22, u23, u24, u25, u26, u27⟩ := hSw); (go_simp; try rfl)⟩) (h := ?_)
            simp only [Act.put, List.setIfInBounds_toArray, List.set_cons_zero, List.set_cons_succ]
            refine takeT 3 hH (hy := .inl ⟨by rfl, by (intro w hSw; try obtain ⟨u0, u1, u2, u3, u4, u5, u6, u7, u8, u9, u10, u11, u12, u13, u14, u15, u16, u17, u18, u19, u20, u21, u22, u23, u24, u25, u26, u27⟩ := hSw); (go_simp; try rfl)⟩) (h := ?_)
            simp only [Act.put, List.setIfInBounds_toArray, List.set_cons_zero, List.set_cons_succ]
            refine takeT 4 hH (hy := .inl ⟨by rfl, by (intro w hSw; try obtain ⟨u0, u1, u2, u3, u4, u5, u6, u7, u8, u9, u10, u11, u12, u13, u14, u15, u16, u17, u18, u19, u20, u21, u22, u23, u24, u25, u26, u27⟩ := hSw); (go_simp; try rfl)⟩) (h := ?_)
            simp only [Act.put, List.setIfInBounds_toArray, List.set_cons_zero, List.set_cons_succ]
            refine takeT 5 hH (hy := .inl ⟨by rfl, by (intro w hSw; try obtain ⟨u0, u1, u2, u3, u4, u5, u6, u7, u8, u9, u10, u11, u12, u13, u14, u15, u16, u17, u18, u19, u20, u21, u22, u23, u24, u25, u26, u27⟩ := hSw); (go_simp; try rfl)⟩) (h := ?_)
            simp only [Act.put, List.setIfInBounds_toArray, List.set_cons_zero, List.set_cons_succ]
            refine takeT 6 hH (hy := .inl ⟨by rfl, by (intro w hSw; try obtain ⟨u0, u1, u2, u3, u4, u5, u6, u7, u8, u9, u10, u11, u12, u13, u14, u15, u16, u17, u18, u19, u20, u21, u22, u23, u24, u25, u26, u27⟩ := hSw); (go_simp; try rfl)⟩) (h := ?_)
            simp only [Act.put, List.setIfInBounds_toArray, List.set_cons_zero, List.set_cons_succ]
            refine takeT 7 hH (hy := .inl ⟨by rfl, by (intro w hSw; try obtain ⟨u0, u1, u2, u3, u4, u5, u6, u7, u8, u9, u10, u11, u12, u13, u14, u15, u16, u17, u18, u19, u20, u21, u22, u23, u24, u25, u26, u27⟩ := hSw); (go_simp; try rfl)⟩) (h := ?_)
            simp only [Act.put, List.setIfInBounds_toArray, List.set_cons_zero, List.set_cons_succ]
            refine takeT 8 hH (hy := .inl ⟨by rfl, by (intro w hSw; try obtain ⟨u0, u1, u2, u3, u4, u5, u6, u7, u8, u9, u10, u11, u12, u13, u14, u15, u16, u17, u18, u19, u20, u21, u22, u23, u24, u25, u26, u27⟩ := hSw); (go_simp; try rfl)⟩) (h := ?_)
            simp only [Act.put, List.setIfInBounds_toArray, List.set_cons_zero, List.set_cons_succ]
            refine takeT 9 hH (hy := .inl ⟨by rfl, by (intro w hSw; try obtain ⟨u0, u1, u2, u3, u4, u5, u6, u7, u8, u9, u10, u11, u12, u13, u14, u15, u16, u17, u18, u19, u20, u21, u22, u23, u24, u25, u26, u27⟩ := hSw); (go_simp; try rfl)⟩) (h := ?_)
            simp only [Act.put, List.setIfInBounds_toArray, List.set_cons_zero, List.set_cons_succ]
            refine takeT 10 hH (hy := .inl ⟨by rfl, by (intro w hSw; try obtain ⟨u0, u1, u2, u3, u4, u5, u6, u7, u8, u9, u10, u11, u12, u13, u14, u15, u16, u17, u18, u19, u20, u21, u22, u23, u24, u25, u26, u27⟩ := hSw); (go_simp; try rfl)⟩) (h := ?_)
            simp only [Act.put, List.setIfInBounds_toArray, List.set_cons_zero, List.set_cons_succ]
            refine takeT 11 hH (hy := .inl ⟨by rfl, by (intro w hSw; try obtain ⟨u0, u1, u2, u3, u4, u5, u6, u7, u8, u9, u10, u11, u12, u13, u14, u15, u16, u17, u18, u19, u20, u21, u22, u23, u24, u25, u26, u27⟩ := hSw); (go_simp; try rfl)⟩) (h := ?_)
            simp only [Act.put, List.setIfInBounds_toArray, List.set_cons_zero, List.set_cons_succ]
            refine readyT [12] ?_
            refine consT (fun K hK => ?_) AllReadyH.nil
            go_simp
            go_wp2_with (go_at_call 23; refine (KK.out _ [] T0).mono ?_; rintro e w1 ⟨rfl, T1⟩)
            clear hH
            refine hK.out _ _ (KbaseH.out _ [] T1) (fun hH => ?_)
            clear hK K
            refine takeT 13 hH (hy := .inl ⟨by rfl, by (intro w hSw; try obtain ⟨u0, u1, u2, u3, u4, u5, u6, u7, u8, u9, u10, u11, u12, u13, u14, u15, u16, u17, u18, u19, u20, u21, u22, u23, u24, u25, u26, u27⟩ := hSw); (go_simp; try rfl)⟩) (h := ?_)
            simp only [Act.put, List.setIfInBounds_toArray, List.set_cons_zero, List.set_cons_succ]
            refine takeT 14 hH (hy := .inl ⟨by rfl, by (intro w hSw; try obtain ⟨u0, u1, u2, u3, u4, u5, u6, u7, u8, u9, u10, u11, u12, u13, u14, u15, u16, u17, u18, u19, u20, u21, u22, u23, u24, u25, u26, u27⟩ := hSw); (go_simp; try rfl)⟩) (h := ?_)
            simp only [Act.put, List.setIfInBounds_toArray, List.set_cons_zero, List.set_cons_succ]
            refine takeT 15 hH (hy := .inl ⟨by rfl, by (intro w hSw; try obtain ⟨u0, u1, u2, u3, u4, u5, u6, u7, u8, u9, u10, u11, u12, u13, u14, u15, u16, u17, u18, u19, u20, u21, u22, u23, u24, u25, u26, u27⟩ := hSw); (go_simp; try rfl)⟩) (h := ?_)
            simp only [Act.put, List.setIfInBounds_toArray, List.set_cons_zero, List.set_cons_succ]
            refine takeT 16 hH (hy := .inl ⟨by rfl, by (intro w hSw; try obtain ⟨u0, u1, u2, u3, u4, u5, u6, u7, u8, u9, u10, u11, u12, u13, u14, u15, u16, u17, u18, u19, u20, u21, u22, u23, u24, u25, u26, u27⟩ := hSw); (go_simp; try rfl)⟩) (h := ?_)
            simp only [Act.put, List.setIfInBounds_toArray, List.set_cons_zero, List.set_cons_succ]
            refine readyT [17] ?_
            refine consT (fun K hK => ?_) AllReadyH.nil
            go_simp
            go_wp2_with (go_at_call 36; refine (KG.out _ [] T1).mono ?_; rintro e w2 ⟨rfl, T2⟩)
            clear hH
            refine hK.out _ _ (KbaseH.out _ [] T2) (fun hH => ?_)
            clear hK K
            refine takeT 18 hH (hy := .inl ⟨by rfl, by (intro w hSw; try obtain ⟨u0, u1, u2, u3, u4, u5, u6, u7, u8, u9, u10, u11, u12, u13, u14, u15, u16, u17, u18, u19, u20, u21, u22, u23, u24, u25, u26, u27⟩ := hSw); (go_simp; try rfl)⟩) (h := ?_)
            simp only [Act.put, List.setIfInBounds_toArray, List.set_cons_zero, List.set_cons_succ]
            refine takeT 19 hH (hy := .inl ⟨by rfl, by (intro w hSw; try obtain ⟨u0, u1, u2, u3, u4, u5, u6, u7, u8, u9, u10, u11, u12, u13, u14, u15, u16, u17, u18, u19, u20, u21, u22, u23, u24, u25, u26, u27⟩ := hSw); (go_simp; try rfl)⟩) (h := ?_)
            simp only [Act.put, List.setIfInBounds_toArray, List.set_cons_zero, List.set_cons_succ]
            refine takeT 20 hH (hy := .inl ⟨by rfl, by (intro w hSw; try obtain ⟨u0, u1, u2, u3, u4, u5, u6, u7, u8, u9, u10, u11, u12, u13, u14, u15, u16, u17, u18, u19, u20, u21, u22, u23, u24, u25, u26, u27⟩ := hSw); (go_simp; try rfl)⟩) (h := ?_)
            simp only [Act.put, List.setIfInBounds_toArray, List.set_cons_zero, List.set_cons_succ]
            refine takeT 21 hH (hy := .inl ⟨by rfl, by (intro w hSw; try obtain ⟨u0, u1, u2, u3, u4, u5, u6, u7, u8, u9, u10, u11, u12, u13, u14, u15, u16, u17, u18, u19, u20, u21, u22, u23, u24, u25, u26, u27⟩ := hSw); (go_simp; try rfl)⟩) (h := ?_)
            simp only [Act.put, List.setIfInBounds_toArray, List.set_cons_zero, List.set_cons_succ]
            refine takeT 22 hH (hy := .inl ⟨by rfl, by (intro w hSw; try obtain ⟨u0, u1, u2, u3, u4, u5, u6, u7, u8, u9, u10, u11, u12, u13, u14, u15, u16, u17, u18, u19, u20, u21, u22, u23, u24, u25, u26, u27⟩ := hSw); (go_simp; try rfl)⟩) (h := ?_)
            simp only [Act.put, List.setIfInBounds_toArray, List.set_cons_zero, List.set_cons_succ]
            refine readyT [23] ?_
            refine consT (fun K hK => ?_) AllReadyH.nil
            go_simp
            go_wp2_with (go_at_call 29; refine (KN.out _ [] T2).mono ?_; rintro e w3 ⟨rfl, T3⟩)
            clear hH
            refine hK.out _ _ (KbaseH.out _ [] T3) (fun hH => ?_)
            clear hK K
            refine takeT 24 hH (hy := .inl ⟨by rfl, by (intro w hSw; try obtain ⟨u0, u1, u2, u3, u4, u5, u6, u7, u8, u9, u10, u11, u12, u13, u14, u15, u16, u17, u18, u19, u20, u21, u22, u23, u24, u25, u26, u27⟩ := hSw); (go_simp; try rfl)⟩) (h := ?_)
            simp only [Act.put, List.setIfInBounds_toArray, List.set_cons_zero, List.set_cons_succ]
            refine takeT 25 hH (hy := .inl ⟨by rfl, by (intro w hSw; try obtain ⟨u0, u1, u2, u3, u4, u5, u6, u7, u8, u9, u10, u11, u12, u13, u14, u15, u16, u17, u18, u19, u20, u21, u22, u23, u24, u25, u26, u27⟩ := hSw); (go_simp; try rfl)⟩) (h := ?_)
            simp only [Act.put, List.setIfInBounds_toArray, List.set_cons_zero, List.set_cons_succ]
            refine takeT 26 hH (hy := .inl ⟨by rfl, by (intro w hSw; try obtain ⟨u0, u1, u2, u3, u4, u5, u6, u7, u8, u9, u10, u11, u12, u13, u14, u15, u16, u17, u18, u19, u20, u21, u22, u23, u24, u25, u26, u27⟩ := hSw); (go_simp; try rfl)⟩) (h := ?_)
            simp only [Act.put, List.setIfInBounds_toArray, List.set_cons_zero, List.set_cons_succ]
            refine takeT 27 hH (hy := .inl ⟨by rfl, by (intro w hSw; try obtain ⟨u0, u1, u2, u3, u4, u5, u6, u7, u8, u9, u10, u11, u12, u13, u14, u15, u16, u17, u18, u19, u20, u21, u22, u23, u24, u25, u26, u27⟩ := hSw); (go_simp; try rfl)⟩) (h := ?_)
            simp only [Act.put, List.setIfInBounds_toArray, List.set_cons_zero, List.set_cons_succ]
            refine takeT 28 hH (hy := .inl ⟨by rfl, by (intro w hSw; try obtain ⟨u0, u1, u2, u3, u4, u5, u6, u7, u8, u9, u10, u11, u12, u13, u14, u15, u16, u17, u18, u19, u20, u21, u22, u23, u24, u25, u26, u27⟩ := hSw); (go_simp; try rfl)⟩) (h := ?_)
            simp only [Act.put, List.setIfInBounds_toArray, List.set_cons_zero, List.set_cons_succ]
            refine takeT 29 hH (hy := .inl ⟨by rfl, by (intro w hSw; try obtain ⟨u0, u1, u2, u3, u4, u5, u6, u7, u8, u9, u10, u11, u12, u13, u14, u15, u16, u17, u18, u19, u20, u21, u22, u23, u24, u25, u26, u27⟩ := hSw); (go_simp; try rfl)⟩) (h := ?_)
            simp only [Act.put, List.setIfInBounds_toArray, List.set_cons_zero, List.set_cons_succ]
            refine takeT 30 hH (hy := .inl ⟨by rfl, by (intro w hSw; try obtain ⟨u0, u1, u2, u3, u4, u5, u6, u7, u8, u9, u10, u11, u12, u13, u14, u15, u16, u17, u18, u19, u20, u21, u22, u23, u24, u25, u26, u27⟩ := hSw); (go_simp; try rfl)⟩) (h := ?_)
            simp only [Act.put, List.setIfInBounds_toArray, List.set_cons_zero, List.set_cons_succ]
            refine takeT 31 hH (hy := .inl ⟨by rfl, by (intro w hSw; try obtain ⟨u0, u1, u2, u3, u4, u5, u6, u7, u8, u9, u10, u11, u12, u13, u14, u15, u16, u17, u18, u19, u20, u21, u22, u23, u24, u25, u26, u27⟩ := hSw); (go_simp; try rfl)⟩) (h := ?_)
            simp only [Act.put, List.setIfInBounds_toArray, List.set_cons_zero, List.set_cons_succ]
            refine takeT 32 hH (hy := .inl ⟨by rfl, by (intro w hSw; try obtain ⟨u0, u1, u2, u3, u4, u5, u6, u7, u8, u9, u10, u11, u12, u13, u14, u15, u16, u17, u18, u19, u20, u21, u22, u23, u24, u25, u26, u27⟩ := hSw); (go_simp; try rfl)⟩) (h := ?_)
            simp only [Act.put, List.setIfInBounds_toArray, List.set_cons_zero, List.set_cons_succ]
            refine takeT 33 hH (hy := .inl ⟨by rfl, by (intro w hSw; try obtain ⟨u0, u1, u2, u3, u4, u5, u6, u7, u8, u9, u10, u11, u12, u13, u14, u15, u16, u17, u18, u19, u20, u21, u22, u23, u24, u25, u26, u27⟩ := hSw); (go_simp; try rfl)⟩) (h := ?_)
            simp only [Act.put, List.setIfInBounds_toArray, List.set_cons_zero, List.set_cons_succ]
            refine takeT 34 hH (hy := .inl ⟨by rfl, by (intro w hSw; try obtain ⟨u0, u1, u2, u3, u4, u5, u6, u7, u8, u9, u10, u11, u12, u13, u14, u15, u16, u17, u18, u19, u20, u21, u22, u23, u24, u25, u26, u27⟩ := hSw); (go_simp; try rfl)⟩) (h := ?_)
            simp only [Act.put, List.setIfInBounds_toArray, List.set_cons_zero, List.set_cons_succ]
            refine takeT 35 hH (hy := .inl ⟨by rfl, by (intro w hSw; try obtain ⟨u0, u1, u2, u3, u4, u5, u6, u7, u8, u9, u10, u11, u12, u13, u14, u15, u16, u17, u18, u19, u20, u21, u22, u23, u24, u25, u26, u27⟩ := hSw); (go_simp; try rfl)⟩) (h := ?_)
            simp only [Act.put, List.setIfInBounds_toArray, List.set_cons_zero, List.set_cons_succ]
            refine takeT 36 hH (hy := .inl ⟨by rfl, by (intro w hSw; try obtain ⟨u0, u1, u2, u3, u4, u5, u6, u7, u8, u9, u10, u11, u12, u13, u14, u15, u16, u17, u18, u19, u20, u21, u22, u23, u24, u25, u26, u27⟩ := hSw); (go_simp; try rfl)⟩) (h := ?_)
            simp only [Act.put, List.setIfInBounds_toArray, List.set_cons_zero, List.set_cons_succ]
            refine takeT 37 hH (hy := .inl ⟨by rfl, by (intro w hSw; try obtain ⟨u0, u1, u2, u3, u4, u5, u6, u7, u8, u9, u10, u11, u12, u13, u14, u15, u16, u17, u18, u19, u20, u21, u22, u23, u24, u25, u26, u27⟩ := hSw); (go_simp; try rfl)⟩) (h := ?_)
            simp only [Act.put, List.setIfInBounds_toArray, List.set_cons_zero, List.set_cons_succ]
            refine takeT 38 hH (hy := .inl ⟨by rfl, by (intro w hSw; try obtain ⟨u0, u1, u2, u3, u4, u5, u6, u7, u8, u9, u10, u11, u12, u13, u14, u15, u16, u17, u18, u19, u20, u21, u22, u23, u24, u25, u26, u27⟩ := hSw); (go_simp; try rfl)⟩) (h := ?_)
            simp only [Act.put, List.setIfInBounds_toArray, List.set_cons_zero, List.set_cons_succ]
            refine takeT 39 hH (hy := .inl ⟨by rfl, by (intro w hSw; try obtain ⟨u0, u1, u2, u3, u4, u5, u6, u7, u8, u9, u10, u11, u12, u13, u14, u15, u16, u17, u18, u19, u20, u21, u22, u23, u24, u25, u26, u27⟩ := hSw); (go_simp; try rfl)⟩) (h := ?_)
            simp only [Act.put, List.setIfInBounds_toArray, List.set_cons_zero, List.set_cons_succ]
            refine takeT 40 hH (hy := .inl ⟨by rfl, by (intro w hSw; try obtain ⟨u0, u1, u2, u3, u4, u5, u6, u7, u8, u9, u10, u11, u12, u13, u14, u15, u16, u17, u18, u19, u20, u21, u22, u23, u24, u25, u26, u27⟩ := hSw); (go_simp; try rfl)⟩) (h := ?_)
            simp only [Act.put, List.setIfInBounds_toArray, List.set_cons_zero, List.set_cons_succ]
            refine takeT 41 hH (hy := .inl ⟨by rfl, by (intro w hSw; try obtain ⟨u0, u1, u2, u3, u4, u5, u6, u7, u8, u9, u10, u11, u12, u13, u14, u15, u16, u17, u18, u19, u20, u21, u22, u23, u24, u25, u26, u27⟩ := hSw); (go_simp; try rfl)⟩) (h := ?_)
            simp only [Act.put, List.setIfInBounds_toArray, List.set_cons_zero, List.set_cons_succ]
            refine takeT 42 hH (hy := .inl ⟨by rfl, by (intro w hSw; try obtain ⟨u0, u1, u2, u3, u4, u5, u6, u7, u8, u9, u10, u11, u12, u13, u14, u15, u16, u17, u18, u19, u20, u21, u22, u23, u24, u25, u26, u27⟩ := hSw); (go_simp; try rfl)⟩) (h := ?_)
            simp only [Act.put, List.setIfInBounds_toArray, List.set_cons_zero, List.set_cons_succ]
            refine takeT 43 hH (hy := .inl ⟨by rfl, by (intro w hSw; try obtain ⟨u0, u1, u2, u3, u4, u5, u6, u7, u8, u9, u10, u11, u12, u13, u14, u15, u16, u17, u18, u19, u20, u21, u22, u23, u24, u25, u26, u27⟩ := hSw); (go_simp; try rfl)⟩) (h := ?_)
            simp only [Act.put, List.setIfInBounds_toArray, List.set_cons_zero, List.set_cons_succ]
            refine takeT 44 hH (hy := .inl ⟨by rfl, by (intro w hSw; try obtain ⟨u0, u1, u2, u3, u4, u5, u6, u7, u8, u9, u10, u11, u12, u13, u14, u15, u16, u17, u18, u19, u20, u21, u22, u23, u24, u25, u26, u27⟩ := hSw); (go_simp; try rfl)⟩) (h := ?_)
            simp only [Act.put, List.setIfInBounds_toArray, List.set_cons_zero, List.set_cons_succ]
            refine takeT 45 hH (hy := .inl ⟨by rfl, by (intro w hSw; try obtain ⟨u0, u1, u2, u3, u4, u5, u6, u7, u8, u9, u10, u11, u12, u13, u14, u15, u16, u17, u18, u19, u20, u21, u22, u23, u24, u25, u26, u27⟩ := hSw); (go_simp; try rfl)⟩) (h := ?_)
            simp only [Act.put, List.setIfInBounds_toArray, List.set_cons_zero, List.set_cons_succ]
            refine takeT 46 hH (hy := .inl ⟨by rfl, by (intro w hSw; try obtain ⟨u0, u1, u2, u3, u4, u5, u6, u7, u8, u9, u10, u11, u12, u13, u14, u15, u16, u17, u18, u19, u20, u21, u22, u23, u24, u25, u26, u27⟩ := hSw); (go_simp; try rfl)⟩) (h := ?_)
            simp only [Act.put, List.setIfInBounds_toArray, List.set_cons_zero, List.set_cons_succ]
            refine takeT 47 hH (hy := .inl ⟨by rfl, by (intro w hSw; try obtain ⟨u0, u1, u2, u3, u4, u5, u6, u7, u8, u9, u10, u11, u12, u13, u14, u15, u16, u17, u18, u19, u20, u21, u22, u23, u24, u25, u26, u27⟩ := hSw); (go_simp; try rfl)⟩) (h := ?_)
            simp only [Act.put, List.setIfInBounds_toArray, List.set_cons_zero, List.set_cons_succ]
            refine takeT 48 hH (hy := .inl ⟨by rfl, by (intro w hSw; try obtain ⟨u0, u1, u2, u3, u4, u5, u6, u7, u8, u9, u10, u11, u12, u13, u14, u15, u16, u17, u18, u19, u20, u21, u22, u23, u24, u25, u26, u27⟩ := hSw); (go_simp; try rfl)⟩) (h := ?_)
            simp only [Act.put, List.setIfInBounds_toArray, List.set_cons_zero, List.set_cons_succ]
            refine readyT [49] ?_
            refine consT (fun K hK => ?_) AllReadyH.nil
            go_simp
            go_wp2_with (go_at_call 14; refine (KU.out _ [] T3).mono ?_; rintro e w4 ⟨rfl, T4⟩)
            clear hH
            refine hK.out _ _ (KbaseH.out _ [] T4) (fun hH => ?_)
            clear hK K
            refine takeT 50 hH (hy := .inl ⟨by rfl, by (intro w hSw; try obtain ⟨u0, u1, u2, u3, u4, u5, u6, u7, u8, u9, u10, u11, u12, u13, u14, u15, u16, u17, u18, u19, u20, u21, u22, u23, u24, u25, u26, u27⟩ := hSw); (go_simp; try rfl)⟩) (h := ?_)
            simp only [Act.put, List.setIfInBounds_toArray, List.set_cons_zero, List.set_cons_succ]
            refine takeT 51 hH (hy := .inl ⟨by rfl, by (intro w hSw; try obtain ⟨u0, u1, u2, u3, u4, u5, u6, u7, u8, u9, u10, u11, u12, u13, u14, u15, u16, u17, u18, u19, u20, u21, u22, u23, u24, u25, u26, u27⟩ := hSw); (go_simp; try rfl)⟩) (h := ?_)
            simp only [Act.put, List.setIfInBounds_toArray, List.set_cons_zero, List.set_cons_succ]
            refine takeT 52 hH (hy := .inl ⟨by rfl, by (intro w hSw; try obtain ⟨u0, u1, u2, u3, u4, u5, u6, u7, u8, u9, u10, u11, u12, u13, u14, u15, u16, u17, u18, u19, u20, u21, u22, u23, u24, u25, u26, u27⟩ := hSw); (go_simp; try rfl)⟩) (h := ?_)
            simp only [Act.put, List.setIfInBounds_toArray, List.set_cons_zero, List.set_cons_succ]
            refine takeT 53 hH (hy := .inl ⟨by rfl, by (intro w hSw; try obtain ⟨u0, u1, u2, u3, u4, u5, u6, u7, u8, u9, u10, u11, u12, u13, u14, u15, u16, u17, u18, u19, u20, u21, u22, u23, u24, u25, u26, u27⟩ := hSw); (go_simp; try rfl)⟩) (h := ?_)
            simp only [Act.put, List.setIfInBounds_toArray, List.set_cons_zero, List.set_cons_succ]
            refine takeT 54 hH (hy := .inl ⟨by rfl, by (intro w hSw; try obtain ⟨u0, u1, u2, u3, u4, u5, u6, u7, u8, u9, u10, u11, u12, u13, u14, u15, u16, u17, u18, u19, u20, u21, u22, u23, u24, u25, u26, u27⟩ := hSw); (go_simp; try rfl)⟩) (h := ?_)
            simp only [Act.put, List.setIfInBounds_toArray, List.set_cons_zero, List.set_cons_succ]
            refine readyT [55] ?_
            refine consT (fun K hK => ?_) AllReadyH.nil
            go_simp
            go_wp2_with (go_at_call 14; refine (KV.out _ [] T4).mono ?_; rintro e w5 ⟨rfl, T5⟩)
            clear hH
            refine hK.out _ _ (KbaseH.out _ [] T5) (fun hH => ?_)
            clear hK K
            refine takeT 56 hH (hy := .inl ⟨by rfl, by (intro w hSw; try obtain ⟨u0, u1, u2, u3, u4, u5, u6, u7, u8, u9, u10, u11, u12, u13, u14, u15, u16, u17, u18, u19, u20, u21, u22, u23, u24, u25, u26, u27⟩ := hSw); (go_simp; try rfl)⟩) (h := ?_)
            simp only [Act.put, List.setIfInBounds_toArray, List.set_cons_zero, List.set_cons_succ]
            refine takeT 57 hH (hy := .inl ⟨by rfl, by (intro w hSw; try obtain ⟨u0, u1, u2, u3, u4, u5, u6, u7, u8, u9, u10, u11, u12, u13, u14, u15, u16, u17, u18, u19, u20, u21, u22, u23, u24, u25, u26, u27⟩ := hSw); (go_simp; try rfl)⟩) (h := ?_)
            simp only [Act.put, List.setIfInBounds_toArray, List.set_cons_zero, List.set_cons_succ]
            refine takeT 58 hH (hy := .inl ⟨by rfl, by (intro w hSw; try obtain ⟨u0, u1, u2, u3, u4, u5, u6, u7, u8, u9, u10, u11, u12, u13, u14, u15, u16, u17, u18, u19, u20, u21, u22, u23, u24, u25, u26, u27⟩ := hSw); (go_simp; try rfl)⟩) (h := ?_)
            simp only [Act.put, List.setIfInBounds_toArray, List.set_cons_zero, List.set_cons_succ]
            refine wpAnyH_done (by kernel_rfl) ?_ _
            as_aux_lemma =>
              go_wp2_with fail
              go_meet
              exact ⟨rfl, T5.below⟩
        case rest =>
          obtain ⟨rfl, B⟩ := hcut
          replace B := Lib.hid B
          go_wp2
          go_ret
          exact ⟨rfl, B.out⟩
end Go.Proofs.Ytkocenlglodklaa
