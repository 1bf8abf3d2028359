/-
  OperateSums: for any two rows of values and any number, the law returns true: sums and products of rows. No condition.
-/
import Derived.Test.YtellmfimmghidaaGreatShownP
import Derived.Test.YtellmfimmghidaaGreatFrame
import Derived.Test.YtellmfimmghidaaGreatRowX
import Derived.Test.YtellmfimmghidaaGreatMulR
import Derived.Test.YtellmfimmghidaaGreatOprN
import Derived.Test.YtellmfimmghidaaGreatLawO
import Derived.Test.YtellmfimmghidaaGreatLawC
namespace Go.Proofs.YtellmfimmghidaaGreat.operateSums
set_option linter.unusedSimpArgs false
open Go.ChangeShapes Go.WideShapes Go.ChangeAt Go.RowKit
open Go.ChangeMaps (open_string)
set_option linter.unusedVariables false
set_option maxRecDepth 100000 in
set_option maxHeartbeats 12800000 in
theorem walk_false (w : World) (sa sb : Value) (la lb : List V) (hsa : SeesV w sa la) (hsb : SeesV w sb lb) (n : Int) (hn : (Lit.int .i8 n).wf = true) :
    Calls Tryz.prog 13 #[sa, sb, .bool false, .int .i8 n] w fun e W' => e = .returned (.bool true) ∧ Below w.heap.size w W' := by
  obtain ⟨P, hP⟩ : ∃ P, P = (la.take 8).map plainV := ⟨_, rfl⟩
  have hnP : (la.take 8).length = P.length := by rw [hP, List.length_map]
  have H8P := Lib.hid (show P.length ≤ 8 by rw [← hnP, List.length_take]; omega)
  have HPP := Lib.hid hP
  have HNP := Lib.hid hnP
  obtain ⟨R, hR⟩ : ∃ P, P = (lb.take 8).map plainV := ⟨_, rfl⟩
  have hnR : (lb.take 8).length = R.length := by rw [hR, List.length_map]
  have H8R := Lib.hid (show R.length ≤ 8 by rw [← hnR, List.length_take]; omega)
  have HPR := Lib.hid hR
  have HNR := Lib.hid hnR
  have HNB := Lib.hid hn
  have HSA := Lib.hid hsa
  have HSB := Lib.hid hsb
  have S := Sep.start (Below.refl w.heap.size w)
  have M0 := Lib.hid (shown_ok S)
  clear S hn hsa hsb hP hR hnP hnR
  go_enter Tryz.func13, Tryz.ntmps13
  go_wp2_with fail
  refine M0.out.mono ?_
  rintro e w1 ⟨rfl, S⟩
  clear M0
  have M := Lib.hid S.new
  clear S
  go_wp2_with fail
  refine M.out.mono ?_
  rintro e w2 ⟨h, rfl, S, -⟩
  clear M
  replace S : Sep w (heapR h (HX []) :: []) _ := S
  have HG0 := Lib.hid HXG.nil
  have HG1 : Hid (HXG [rowO 1 (by decide) P]) := Lib.hid (HG0.out.snoc (by have := H8P.out; omega))
  replace S : Sep w (heapR h (HX []) :: []) (w2) := by
    refine (show Sep w ([heapR h (HX [])] ++ []) _ from S).perm ?_
    exact List.Perm.append_right [] (perm_of (l := [heapR h (HX [])]) [0] (by show (List.range' 0 1).Perm [0]; decide) (by rfl))
  refine named ([] : List Res) fun b5_2 hb5_2 => ?_
  have Hb5_2 := Lib.hid hb5_2
  have Kb5_2 : Hid (∀ W (Q : List Res), Sep w (Q ++ b5_2) W → True) := Lib.hid fun W Q T => by
    rw [hb5_2] at T
    trivial
  replace S := Lib.hid S
  clear hb5_2
  go_upto_region 5 with fail
  have S1 : Sep w ([heapR h (HX [])] ++ b5_2) (w2) := by rw [Hb5_2.out]; exact S.out
  clear S
  refine regionL (E := [emptyR, heapR h (HX [])]) (base := b5_2) (Sep.putE S1) ?_
  clear S1
  iterate 3 (refine quietL ?_; simp only [Act.put, pa]; try dsimp only [List.set])
  refine detL (.tuple #[.agg #[.int .i64 4, .int .i64 1, .string ⟨#[]⟩], .int .i64 P.length]) [emptyR, heapR h (HX [rowO 1 (by decide) P])] (h1 := fun Wx hSw => by (go_simp; refine symCall ?_; have hh := rows_list hSw 1 rfl (HG0.out.good (by simp)) (by decide) sa la (HSA.out); rw [HNP.out, ← HPP.out] at hh; exact hh)) (h2 := ?_)
  simp only [Act.put, pa]; try dsimp only [List.set]
  iterate 3 (refine quietL ?_; simp only [Act.put, pa]; try dsimp only [List.set])
  refine allocL 0 rfl (fun q => .pointer (some ⟨q, 0, none⟩)) (.cells #[.int .i64 0, .int .i64 0, .string ⟨#[]⟩] 29) (h1 := fun Wx => by go_simp) (h2 := fun qX2 => ?_)
  simp only [Act.put, pa]; try dsimp only [List.set]
  try simp only [List.set_cons_zero, List.set_cons_succ]
  refine detL undef [boxW qX2 4 1 ⟨#[]⟩, heapR h (HX [rowO 1 (by decide) P])] (h1 := fun Wx hSw => by (have hz := hSw.box (b := qX2) (o := objZ) 0 rfl; refine useZ3 hz fun z0 z1 z2 y0 y1 y2 => ?_; go_simp; exact ⟨rfl, hSw.set3 0 rfl (.int .i64 4) (.int .i64 1) (.string ⟨#[]⟩)⟩)) (h2 := ?_)
  simp only [Act.put, pa]; try dsimp only [List.set]
  refine quietL ?_
  simp only [Act.put, pa]; try dsimp only [List.set]
  intro w4 S
  replace S : Sep w (boxW qX2 4 1 ⟨#[]⟩ :: heapR h (HX [rowO 1 (by decide) P]) :: []) w4 := by rw [Hb5_2.out] at S; exact S
  clear Hb5_2 Kb5_2
  have HG2 : Hid (HXG [rowO 1 (by decide) P, rowO 1 (by decide) R]) := Lib.hid (HG1.out.snoc (by have := H8R.out; omega))
  replace S : Sep w (heapR h (HX [rowO 1 (by decide) P]) :: boxW qX2 4 1 ⟨#[]⟩ :: []) (w4) := by
    refine (show Sep w ([boxW qX2 4 1 ⟨#[]⟩, heapR h (HX [rowO 1 (by decide) P])] ++ []) _ from S).perm ?_
    exact List.Perm.append_right [] (perm_of (l := [boxW qX2 4 1 ⟨#[]⟩, heapR h (HX [rowO 1 (by decide) P])]) [1, 0] (by show (List.range' 0 2).Perm [1, 0]; decide) (by rfl))
  refine named (boxW qX2 4 1 ⟨#[]⟩ :: [] : List Res) fun b6_4 hb6_4 => ?_
  have Hb6_4 := Lib.hid hb6_4
  have Kb6_4 : Hid (∀ W (Q : List Res), Sep w (Q ++ b6_4) W → True) := Lib.hid fun W Q T => by
    rw [hb6_4] at T
    trivial
  replace S := Lib.hid S
  clear hb6_4
  go_upto_region 6 with fail
  have S1 : Sep w ([heapR h (HX [rowO 1 (by decide) P])] ++ b6_4) (w4) := by rw [Hb6_4.out]; exact S.out
  clear S
  refine regionL (E := [emptyR, heapR h (HX [rowO 1 (by decide) P])]) (base := b6_4) (Sep.putE S1) ?_
  clear S1
  iterate 3 (refine quietL ?_; simp only [Act.put, pa]; try dsimp only [List.set])
  refine detL (.tuple #[.agg #[.int .i64 4, .int .i64 2, .string ⟨#[]⟩], .int .i64 R.length]) [emptyR, heapR h (HX [rowO 1 (by decide) P, rowO 1 (by decide) R])] (h1 := fun Wx hSw => by (go_simp; refine symCall ?_; have hh := rows_list hSw 1 rfl (HG1.out.good (by simp)) (by decide) sb lb (HSB.out); rw [HNR.out, ← HPR.out] at hh; exact hh)) (h2 := ?_)
  simp only [Act.put, pa]; try dsimp only [List.set]
  iterate 3 (refine quietL ?_; simp only [Act.put, pa]; try dsimp only [List.set])
  refine allocL 0 rfl (fun q => .pointer (some ⟨q, 0, none⟩)) (.cells #[.int .i64 0, .int .i64 0, .string ⟨#[]⟩] 29) (h1 := fun Wx => by go_simp) (h2 := fun qY2 => ?_)
  simp only [Act.put, pa]; try dsimp only [List.set]
  try simp only [List.set_cons_zero, List.set_cons_succ]
  refine detL undef [boxW qY2 4 2 ⟨#[]⟩, heapR h (HX [rowO 1 (by decide) P, rowO 1 (by decide) R])] (h1 := fun Wx hSw => by (have hz := hSw.box (b := qY2) (o := objZ) 0 rfl; refine useZ3 hz fun z0 z1 z2 y0 y1 y2 => ?_; go_simp; exact ⟨rfl, hSw.set3 0 rfl (.int .i64 4) (.int .i64 2) (.string ⟨#[]⟩)⟩)) (h2 := ?_)
  simp only [Act.put, pa]; try dsimp only [List.set]
  refine quietL ?_
  simp only [Act.put, pa]; try dsimp only [List.set]
  intro w6 S
  replace S : Sep w (boxW qY2 4 2 ⟨#[]⟩ :: heapR h (HX [rowO 1 (by decide) P, rowO 1 (by decide) R]) :: boxW qX2 4 1 ⟨#[]⟩ :: []) w6 := by rw [Hb6_4.out] at S; exact S
  clear Hb6_4 Kb6_4
  have HG3 : Hid (HXG [rowO 1 (by decide) P, rowO 1 (by decide) R, rowO 2 (by decide) R]) := Lib.hid (HG2.out.snoc (by have := H8R.out; omega))
  replace S : Sep w (heapR h (HX [rowO 1 (by decide) P, rowO 1 (by decide) R]) :: boxW qY2 4 2 ⟨#[]⟩ :: boxW qX2 4 1 ⟨#[]⟩ :: []) (w6) := by
    refine (show Sep w ([boxW qY2 4 2 ⟨#[]⟩, heapR h (HX [rowO 1 (by decide) P, rowO 1 (by decide) R]), boxW qX2 4 1 ⟨#[]⟩] ++ []) _ from S).perm ?_
    exact List.Perm.append_right [] (perm_of (l := [boxW qY2 4 2 ⟨#[]⟩, heapR h (HX [rowO 1 (by decide) P, rowO 1 (by decide) R]), boxW qX2 4 1 ⟨#[]⟩]) [1, 0, 2] (by show (List.range' 0 3).Perm [1, 0, 2]; decide) (by rfl))
  refine named (boxW qY2 4 2 ⟨#[]⟩ :: boxW qX2 4 1 ⟨#[]⟩ :: [] : List Res) fun b7_6 hb7_6 => ?_
  have Hb7_6 := Lib.hid hb7_6
  have Kb7_6 : Hid (∀ W (Q : List Res), Sep w (Q ++ b7_6) W → True) := Lib.hid fun W Q T => by
    rw [hb7_6] at T
    trivial
  replace S := Lib.hid S
  clear hb7_6
  go_upto_region 7 with fail
  have S1 : Sep w ([heapR h (HX [rowO 1 (by decide) P, rowO 1 (by decide) R])] ++ b7_6) (w6) := by rw [Hb7_6.out]; exact S.out
  clear S
  refine regionL (E := [emptyR, heapR h (HX [rowO 1 (by decide) P, rowO 1 (by decide) R])]) (base := b7_6) (Sep.putE S1) ?_
  clear S1
  iterate 4 (refine quietL ?_; simp only [Act.put, pa]; try dsimp only [List.set])
  refine detL (.tuple #[.agg #[.int .i64 4, .int .i64 3, .string ⟨#[]⟩], .int .i64 R.length]) [emptyR, heapR h (HX [rowO 1 (by decide) P, rowO 1 (by decide) R, rowO 2 (by decide) R])] (h1 := fun Wx hSw => by (go_simp; refine symCall ?_; have hh := rows_tuple hSw 1 rfl (HG2.out.good (by simp)) (by decide) sb lb (HSB.out); rw [HNR.out, ← HPR.out] at hh; exact hh)) (h2 := ?_)
  simp only [Act.put, pa]; try dsimp only [List.set]
  iterate 3 (refine quietL ?_; simp only [Act.put, pa]; try dsimp only [List.set])
  refine allocL 0 rfl (fun q => .pointer (some ⟨q, 0, none⟩)) (.cells #[.int .i64 0, .int .i64 0, .string ⟨#[]⟩] 29) (h1 := fun Wx => by go_simp) (h2 := fun qO2 => ?_)
  simp only [Act.put, pa]; try dsimp only [List.set]
  try simp only [List.set_cons_zero, List.set_cons_succ]
  refine detL undef [boxW qO2 4 3 ⟨#[]⟩, heapR h (HX [rowO 1 (by decide) P, rowO 1 (by decide) R, rowO 2 (by decide) R])] (h1 := fun Wx hSw => by (have hz := hSw.box (b := qO2) (o := objZ) 0 rfl; refine useZ3 hz fun z0 z1 z2 y0 y1 y2 => ?_; go_simp; exact ⟨rfl, hSw.set3 0 rfl (.int .i64 4) (.int .i64 3) (.string ⟨#[]⟩)⟩)) (h2 := ?_)
  simp only [Act.put, pa]; try dsimp only [List.set]
  refine quietL ?_
  simp only [Act.put, pa]; try dsimp only [List.set]
  intro w8 S
  replace S : Sep w (boxW qO2 4 3 ⟨#[]⟩ :: heapR h (HX [rowO 1 (by decide) P, rowO 1 (by decide) R, rowO 2 (by decide) R]) :: boxW qY2 4 2 ⟨#[]⟩ :: boxW qX2 4 1 ⟨#[]⟩ :: []) w8 := by rw [Hb7_6.out] at S; exact S
  clear Hb7_6 Kb7_6
  have HG4 : Hid (HXG [rowO 1 (by decide) P, rowO 1 (by decide) R, rowO 2 (by decide) R, rowO 1 (by decide) (P ++ R)]) := Lib.hid (HG3.out.snoc (by rw [List.length_append]; have := H8P.out; have := H8R.out; omega))
  replace S : Sep w (heapR h (HX [rowO 1 (by decide) P, rowO 1 (by decide) R, rowO 2 (by decide) R]) :: boxW qO2 4 3 ⟨#[]⟩ :: boxW qY2 4 2 ⟨#[]⟩ :: boxW qX2 4 1 ⟨#[]⟩ :: []) (w8) := by
    refine (show Sep w ([boxW qO2 4 3 ⟨#[]⟩, heapR h (HX [rowO 1 (by decide) P, rowO 1 (by decide) R, rowO 2 (by decide) R]), boxW qY2 4 2 ⟨#[]⟩, boxW qX2 4 1 ⟨#[]⟩] ++ []) _ from S).perm ?_
    exact List.Perm.append_right [] (perm_of (l := [boxW qO2 4 3 ⟨#[]⟩, heapR h (HX [rowO 1 (by decide) P, rowO 1 (by decide) R, rowO 2 (by decide) R]), boxW qY2 4 2 ⟨#[]⟩, boxW qX2 4 1 ⟨#[]⟩]) [1, 0, 2, 3] (by show (List.range' 0 4).Perm [1, 0, 2, 3]; decide) (by rfl))
  refine named (boxW qO2 4 3 ⟨#[]⟩ :: boxW qY2 4 2 ⟨#[]⟩ :: boxW qX2 4 1 ⟨#[]⟩ :: [] : List Res) fun b8_8 hb8_8 => ?_
  have Hb8_8 := Lib.hid hb8_8
  have Kb8_8 : Hid (∀ W (Q : List Res), Sep w (Q ++ b8_8) W → True) := Lib.hid fun W Q T => by
    rw [hb8_8] at T
    trivial
  have Cb8_8_0 : Hid (∀ W (Q : List Res), Sep w (Q ++ b8_8) W → W.cell? ⟨qX2, 0, none⟩ = some (.int .i64 4) ∧ W.cell? ⟨qX2, 1, none⟩ = some (.int .i64 1) ∧ W.cell? ⟨qX2, 2, none⟩ = some (.string ⟨#[]⟩)) := Lib.hid fun W Q T => by
    rw [hb8_8] at T
    have i0 := T.box (b := qX2) (o := objW 4 1 ⟨#[]⟩) (Q.length + 2) (by rw [List.getElem?_append_right (by omega), Nat.add_sub_cancel_left]; rfl)
    exact ⟨cellAt i0 0 rfl, cellAt i0 1 rfl, cellAt i0 2 rfl⟩
  have Cb8_8_1 : Hid (∀ W (Q : List Res), Sep w (Q ++ b8_8) W → W.cell? ⟨qY2, 0, none⟩ = some (.int .i64 4) ∧ W.cell? ⟨qY2, 1, none⟩ = some (.int .i64 2) ∧ W.cell? ⟨qY2, 2, none⟩ = some (.string ⟨#[]⟩)) := Lib.hid fun W Q T => by
    rw [hb8_8] at T
    have i0 := T.box (b := qY2) (o := objW 4 2 ⟨#[]⟩) (Q.length + 1) (by rw [List.getElem?_append_right (by omega), Nat.add_sub_cancel_left]; rfl)
    exact ⟨cellAt i0 0 rfl, cellAt i0 1 rfl, cellAt i0 2 rfl⟩
  replace S := Lib.hid S
  clear hb8_8
  go_upto_region 8 with fail
  have S1 : Sep w ([heapR h (HX [rowO 1 (by decide) P, rowO 1 (by decide) R, rowO 2 (by decide) R])] ++ b8_8) (w8) := by rw [Hb8_8.out]; exact S.out
  clear S
  refine regionL (E := [emptyR, emptyR, heapR h (HX [rowO 1 (by decide) P, rowO 1 (by decide) R, rowO 2 (by decide) R])]) (base := b8_8) (Sep.putE (Sep.putE S1)) ?_
  clear S1
  refine quietL ?_
  simp only [Act.put, pa]; try dsimp only [List.set]
  refine quietL (hy := fun E Wx hSw => by ((refine and3 (Cb8_8_0.out _ _ hSw) fun u0 u1 u2 => ?_); go_simp; exact ⟨rfl, hSw⟩)) (h := ?_)
  simp only [Act.put, pa]; try dsimp only [List.set]
  refine quietL (hy := fun E Wx hSw => by ((refine and3 (Cb8_8_1.out _ _ hSw) fun u0 u1 u2 => ?_); go_simp; exact ⟨rfl, hSw⟩)) (h := ?_)
  simp only [Act.put, pa]; try dsimp only [List.set]
  refine detL (.tuple #[.agg #[.int .i64 4, .int .i64 4, .string ⟨#[]⟩], excZ]) [emptyR, emptyR, heapR h (HX [rowO 1 (by decide) P, rowO 1 (by decide) R, rowO 2 (by decide) R, rowO 1 (by decide) (P ++ R)])] (h1 := fun Wx hSw => by (go_simp; refine symCall ?_; exact bin_add_row hSw 2 rfl (HG3.out.good (by simp)) (by decide) (vX 1 (by decide)) (vX 2 (by decide)) rfl rfl (by have := H8P.out; have := H8R.out; show P.length + R.length ≤ 4096; omega))) (h2 := ?_)
  simp only [Act.put, pa]; try dsimp only [List.set]
  iterate 3 (refine quietL ?_; simp only [Act.put, pa]; try dsimp only [List.set])
  refine allocL 0 rfl (fun q => .pointer (some ⟨q, 0, none⟩)) (.cells #[.int .i64 0, .int .i64 0, .string ⟨#[]⟩] 29) (h1 := fun Wx => by go_simp) (h2 := fun qa82 => ?_)
  simp only [Act.put, pa]; try dsimp only [List.set]
  try simp only [List.set_cons_zero, List.set_cons_succ]
  refine allocL 1 rfl (fun q => .pointer (some ⟨q, 0, none⟩)) (.cells #[.string ⟨#[]⟩, .int .i64 0, .int .i64 0, .string ⟨#[]⟩, .bool false] 38) (h1 := fun Wx => by go_simp) (h2 := fun qb83 => ?_)
  simp only [Act.put, pa]; try dsimp only [List.set]
  try simp only [List.set_cons_zero, List.set_cons_succ]
  refine detL undef [boxW qa82 4 4 ⟨#[]⟩, boxE qb83, heapR h (HX [rowO 1 (by decide) P, rowO 1 (by decide) R, rowO 2 (by decide) R, rowO 1 (by decide) (P ++ R)])] (h1 := fun Wx hSw => by (have hz := hSw.box (b := qa82) (o := objZ) 0 rfl; refine useZ3 hz fun z0 z1 z2 y0 y1 y2 => ?_; go_simp; exact ⟨rfl, hSw.set3 0 rfl (.int .i64 4) (.int .i64 4) (.string ⟨#[]⟩)⟩)) (h2 := ?_)
  simp only [Act.put, pa]; try dsimp only [List.set]
  refine detL undef [boxW qa82 4 4 ⟨#[]⟩, boxE qb83, heapR h (HX [rowO 1 (by decide) P, rowO 1 (by decide) R, rowO 2 (by decide) R, rowO 1 (by decide) (P ++ R)])] (h1 := fun Wx hSw => by (have hz := hSw.box (b := qb83) (o := objE) 1 rfl; refine useZ5 hz fun z0 z1 z2 z3 z4 y0 y1 y2 y3 y4 => ?_; go_simp; exact ⟨rfl, hSw.set5 1 rfl (.string ⟨#[]⟩) (.int .i64 0) (.int .i64 0) (.string ⟨#[]⟩) (.bool false)⟩)) (h2 := ?_)
  simp only [Act.put, pa]; try dsimp only [List.set]
  intro w10 S
  replace S : Sep w (boxW qa82 4 4 ⟨#[]⟩ :: boxE qb83 :: heapR h (HX [rowO 1 (by decide) P, rowO 1 (by decide) R, rowO 2 (by decide) R, rowO 1 (by decide) (P ++ R)]) :: boxW qO2 4 3 ⟨#[]⟩ :: boxW qY2 4 2 ⟨#[]⟩ :: boxW qX2 4 1 ⟨#[]⟩ :: []) w10 := by rw [Hb8_8.out] at S; exact S
  clear Hb8_8 Kb8_8 Cb8_8_0 Cb8_8_1
  refine named (boxW qa82 4 4 ⟨#[]⟩ :: boxE qb83 :: heapR h (HX [rowO 1 (by decide) P, rowO 1 (by decide) R, rowO 2 (by decide) R, rowO 1 (by decide) (P ++ R)]) :: boxW qO2 4 3 ⟨#[]⟩ :: boxW qY2 4 2 ⟨#[]⟩ :: boxW qX2 4 1 ⟨#[]⟩ :: [] : List Res) fun b9_10 hb9_10 => ?_
  have Hb9_10 := Lib.hid hb9_10
  have Kb9_10 : Hid (∀ W (Q : List Res), Sep w (Q ++ b9_10) W → True) := Lib.hid fun W Q T => by
    rw [hb9_10] at T
    trivial
  have Cb9_10_0 : Hid (∀ W (Q : List Res), Sep w (Q ++ b9_10) W → W.cell? ⟨qO2, 0, none⟩ = some (.int .i64 4) ∧ W.cell? ⟨qO2, 1, none⟩ = some (.int .i64 3) ∧ W.cell? ⟨qO2, 2, none⟩ = some (.string ⟨#[]⟩)) := Lib.hid fun W Q T => by
    rw [hb9_10] at T
    have i0 := T.box (b := qO2) (o := objW 4 3 ⟨#[]⟩) (Q.length + 3) (by rw [List.getElem?_append_right (by omega), Nat.add_sub_cancel_left]; rfl)
    exact ⟨cellAt i0 0 rfl, cellAt i0 1 rfl, cellAt i0 2 rfl⟩
  have Cb9_10_1 : Hid (∀ W (Q : List Res), Sep w (Q ++ b9_10) W → W.cell? ⟨qX2, 0, none⟩ = some (.int .i64 4) ∧ W.cell? ⟨qX2, 1, none⟩ = some (.int .i64 1) ∧ W.cell? ⟨qX2, 2, none⟩ = some (.string ⟨#[]⟩)) := Lib.hid fun W Q T => by
    rw [hb9_10] at T
    have i0 := T.box (b := qX2) (o := objW 4 1 ⟨#[]⟩) (Q.length + 5) (by rw [List.getElem?_append_right (by omega), Nat.add_sub_cancel_left]; rfl)
    exact ⟨cellAt i0 0 rfl, cellAt i0 1 rfl, cellAt i0 2 rfl⟩
  have K9_3 : Hid (∀ W (Q : List Res), Sep w (Q ++ b9_10) W → Calls Tryz.prog 23 #[.pointer (some ⟨h, 0, none⟩), .string ⟨#[43]⟩, .agg #[.int .i64 4, .int .i64 1, .string ⟨#[]⟩], .agg #[.int .i64 4, .int .i64 3, .string ⟨#[]⟩]] W fun e W' => e = .returned (.tuple #[zeroV, excN typeError]) ∧ Sep w (Q ++ b9_10) W') := Lib.hid fun W Q T => by
    rw [Hb9_10.out] at T ⊢
    exact bin_add_wrong T (Q.length + 2) (by rw [List.getElem?_append_right (by omega), Nat.add_sub_cancel_left]; rfl) (vX 1 (by decide)) (vX 3 (by decide)) (fun e => absurd e.1 (by decide)) (fun e => absurd e.1 (by decide)) (by intro e; exact absurd (show (1 : Int) = 2 from e.2) (by decide))
  replace S := Lib.hid S
  clear hb9_10
  go_upto_region 9 with fail
  have S1 : Sep w ([] ++ b9_10) (w10) := by rw [Hb9_10.out]; exact S.out
  clear S
  refine regionL (E := [emptyR, emptyR]) (base := b9_10) (Sep.putE (Sep.putE S1)) ?_
  clear S1
  refine quietL ?_
  simp only [Act.put, pa]; try dsimp only [List.set]
  refine quietL (hy := fun E Wx hSw => by ((refine and3 (Cb9_10_1.out _ _ hSw) fun u0 u1 u2 => ?_); go_simp; exact ⟨rfl, hSw⟩)) (h := ?_)
  simp only [Act.put, pa]; try dsimp only [List.set]
  refine quietL (hy := fun E Wx hSw => by ((refine and3 (Cb9_10_0.out _ _ hSw) fun u0 u1 u2 => ?_); go_simp; exact ⟨rfl, hSw⟩)) (h := ?_)
  simp only [Act.put, pa]; try dsimp only [List.set]
  refine quietL (hy := fun E Wx hSw => by (go_simp; exact symCall (K9_3.out _ _ hSw))) (h := ?_)
  simp only [Act.put, pa]; try dsimp only [List.set]
  iterate 3 (refine quietL ?_; simp only [Act.put, pa]; try dsimp only [List.set])
  refine allocL 0 rfl (fun q => .pointer (some ⟨q, 0, none⟩)) (.cells #[.int .i64 0, .int .i64 0, .string ⟨#[]⟩] 29) (h1 := fun Wx => by go_simp) (h2 := fun qa91 => ?_)
  simp only [Act.put, pa]; try dsimp only [List.set]
  try simp only [List.set_cons_zero, List.set_cons_succ]
  refine allocL 1 rfl (fun q => .pointer (some ⟨q, 0, none⟩)) (.cells #[.string ⟨#[]⟩, .int .i64 0, .int .i64 0, .string ⟨#[]⟩, .bool false] 38) (h1 := fun Wx => by go_simp) (h2 := fun qb92 => ?_)
  simp only [Act.put, pa]; try dsimp only [List.set]
  try simp only [List.set_cons_zero, List.set_cons_succ]
  refine detL undef [boxZ qa91, boxE qb92] (h1 := fun Wx hSw => by (have hz := hSw.box (b := qa91) (o := objZ) 0 rfl; refine useZ3 hz fun z0 z1 z2 y0 y1 y2 => ?_; go_simp; exact ⟨rfl, hSw.set3 0 rfl (.int .i64 0) (.int .i64 0) (.string ⟨#[]⟩)⟩)) (h2 := ?_)
  simp only [Act.put, pa]; try dsimp only [List.set]
  refine detL undef [boxZ qa91, boxN qb92 typeError] (h1 := fun Wx hSw => by (have hz := hSw.box (b := qb92) (o := objE) 1 rfl; refine useZ5 hz fun z0 z1 z2 z3 z4 y0 y1 y2 y3 y4 => ?_; go_simp; exact ⟨rfl, hSw.set5 1 rfl (.string typeError) (.int .i64 0) (.int .i64 0) (.string ⟨#[]⟩) (.bool false)⟩)) (h2 := ?_)
  simp only [Act.put, pa]; try dsimp only [List.set]
  intro w12 S
  replace S : Sep w (boxZ qa91 :: boxN qb92 typeError :: boxW qa82 4 4 ⟨#[]⟩ :: boxE qb83 :: heapR h (HX [rowO 1 (by decide) P, rowO 1 (by decide) R, rowO 2 (by decide) R, rowO 1 (by decide) (P ++ R)]) :: boxW qO2 4 3 ⟨#[]⟩ :: boxW qY2 4 2 ⟨#[]⟩ :: boxW qX2 4 1 ⟨#[]⟩ :: []) w12 := by rw [Hb9_10.out] at S; exact S
  clear Hb9_10 Kb9_10 K9_3 Cb9_10_0 Cb9_10_1
  obtain ⟨mm, hmm⟩ : ∃ m, P.length + R.length = m := ⟨_, rfl⟩
  have HMM := Lib.hid hmm
  have HMB := Lib.hid (show mm ≤ 9000000 by have := H8P.out; have := H8R.out; omega)
  obtain ⟨Q4, hQ4⟩ : ∃ Q, Q = P ++ R := ⟨_, rfl⟩
  have HQ4 := Lib.hid hQ4
  clear hmm hQ4
  refine named (boxZ qa91 :: boxN qb92 typeError :: boxW qa82 4 4 ⟨#[]⟩ :: boxE qb83 :: heapR h (HX [rowO 1 (by decide) P, rowO 1 (by decide) R, rowO 2 (by decide) R, rowO 1 (by decide) (P ++ R)]) :: boxW qO2 4 3 ⟨#[]⟩ :: boxW qY2 4 2 ⟨#[]⟩ :: boxW qX2 4 1 ⟨#[]⟩ :: [] : List Res) fun b10_12 hb10_12 => ?_
  have Hb10_12 := Lib.hid hb10_12
  have Kb10_12 : Hid (∀ W (Q : List Res), Sep w (Q ++ b10_12) W → True) := Lib.hid fun W Q T => by
    rw [hb10_12] at T
    trivial
  have Cb10_12_0 : Hid (∀ W (Q : List Res), Sep w (Q ++ b10_12) W → W.cell? ⟨qX2, 0, none⟩ = some (.int .i64 4) ∧ W.cell? ⟨qX2, 1, none⟩ = some (.int .i64 1) ∧ W.cell? ⟨qX2, 2, none⟩ = some (.string ⟨#[]⟩)) := Lib.hid fun W Q T => by
    rw [hb10_12] at T
    have i0 := T.box (b := qX2) (o := objW 4 1 ⟨#[]⟩) (Q.length + 7) (by rw [List.getElem?_append_right (by omega), Nat.add_sub_cancel_left]; rfl)
    exact ⟨cellAt i0 0 rfl, cellAt i0 1 rfl, cellAt i0 2 rfl⟩
  have Cb10_12_1 : Hid (∀ W (Q : List Res), Sep w (Q ++ b10_12) W → W.cell? ⟨qY2, 0, none⟩ = some (.int .i64 4) ∧ W.cell? ⟨qY2, 1, none⟩ = some (.int .i64 2) ∧ W.cell? ⟨qY2, 2, none⟩ = some (.string ⟨#[]⟩)) := Lib.hid fun W Q T => by
    rw [hb10_12] at T
    have i0 := T.box (b := qY2) (o := objW 4 2 ⟨#[]⟩) (Q.length + 6) (by rw [List.getElem?_append_right (by omega), Nat.add_sub_cancel_left]; rfl)
    exact ⟨cellAt i0 0 rfl, cellAt i0 1 rfl, cellAt i0 2 rfl⟩
  have KI10_2 : Hid (∀ W (Q : List Res), Sep w (Q ++ b10_12) W → Calls Tryz.prog 31 #[.pointer (some ⟨h, 0, none⟩), .agg #[.int .i64 4, .int .i64 1, .string ⟨#[]⟩]] W fun e W' => ∃ a c, e = .returned (.slice a P.length c) ∧ Sep w (valsR (.slice a P.length c) P :: (Q ++ b10_12)) W') := Lib.hid fun W Q T => by
    rw [Hb10_12.out] at T ⊢
    exact items_at T (Q.length + 4) (by rw [List.getElem?_append_right (by omega), Nat.add_sub_cancel_left]; rfl) (HG4.out.good (by simp)) (by decide) (vX 1 (by decide)) P rfl
  have KI10_5 : Hid (∀ W (Q : List Res), Sep w (Q ++ b10_12) W → Calls Tryz.prog 31 #[.pointer (some ⟨h, 0, none⟩), .agg #[.int .i64 4, .int .i64 2, .string ⟨#[]⟩]] W fun e W' => ∃ a c, e = .returned (.slice a R.length c) ∧ Sep w (valsR (.slice a R.length c) R :: (Q ++ b10_12)) W') := Lib.hid fun W Q T => by
    rw [Hb10_12.out] at T ⊢
    exact items_at T (Q.length + 4) (by rw [List.getElem?_append_right (by omega), Nat.add_sub_cancel_left]; rfl) (HG4.out.good (by simp)) (by decide) (vX 2 (by decide)) R rfl
  replace S := Lib.hid S
  clear hb10_12
  go_upto_region 10 with fail
  go_cut [21] (fun s21 wx => ∃ a c a2 c2, s21 = .slice a mm c ∧ Sep w ([valsR (.slice a mm c) (P ++ R), valsR (.slice a2 R.length c2) R] ++ b10_12) wx)
  case first =>
    have S1 : Sep w ([] ++ b10_12) (w12) := by rw [Hb10_12.out]; exact S.out
    clear S
    refine regionP 2 6 (E := [emptyR, emptyR]) (base := b10_12) (Sep.putE (Sep.putE S1)) ?_
    clear S1
    refine quietP ?_
    simp only [Act.put, pa]; try dsimp only [List.set]
    refine quietP (hy := fun E Wx hSw => by ((refine and3 (Cb10_12_0.out _ _ hSw) fun u0 u1 u2 => ?_); go_simp; exact ⟨rfl, hSw⟩)) (h := ?_)
    simp only [Act.put, pa]; try dsimp only [List.set]
    refine endP ?_
    refine quietS 3 ?_
    simp only [Act.put, pa]; try dsimp only [List.set]
    refine quietS 4 (hy := fun E Wx hSw => by ((refine and3 (Cb10_12_1.out _ _ hSw) fun u0 u1 u2 => ?_); go_simp; exact ⟨rfl, hSw⟩)) (h := ?_)
    simp only [Act.put, pa]; try dsimp only [List.set]
    refine readyS [2] ?_
    refine stepS (fun v E1 => ∃ (va_14_1 : Option Addr) (vc_14_1 : Nat), v = .slice va_14_1 P.length vc_14_1 ∧ E1 = [valsR (.slice va_14_1 P.length vc_14_1) P, emptyR]) (h1 := fun Wx hSw => by (go_simp; refine symCallN ?_; exact (KI10_2.out _ _ hSw).mono fun e W' ⟨a, c, e1, e2⟩ => ⟨_, _, e1, ⟨a, c, rfl, rfl⟩, e2.into 0 rfl⟩)) (h2 := fun v E1 hvE => ?_) (hs := nilS)
    obtain ⟨va_14_1, vc_14_1, rfl, rfl⟩ := hvE
    simp only [Act.put, pa]; try dsimp only [List.set]
    refine readyS [5] ?_
    refine stepS (fun v E1 => ∃ (va_14_2 : Option Addr) (vc_14_2 : Nat), v = .slice va_14_2 R.length vc_14_2 ∧ E1 = [valsR (.slice va_14_1 P.length vc_14_1) P, valsR (.slice va_14_2 R.length vc_14_2) R]) (h1 := fun Wx hSw => by (go_simp; refine symCallN ?_; exact (KI10_5.out _ _ hSw).mono fun e W' ⟨a, c, e1, e2⟩ => ⟨_, _, e1, ⟨a, c, rfl, rfl⟩, e2.into 1 rfl⟩)) (h2 := fun v E1 hvE => ?_) (hs := nilS)
    obtain ⟨va_14_2, vc_14_2, rfl, rfl⟩ := hvE
    simp only [Act.put, pa]; try dsimp only [List.set]
    refine readyS [6] ?_
    refine stepS (fun v E1 => ∃ (va_14_3 : Option Addr) (vc_14_3 : Nat), v = .slice va_14_3 mm vc_14_3 ∧ E1 = [valsR (.slice va_14_3 mm vc_14_3) (P ++ R), valsR (.slice va_14_2 R.length vc_14_2) R]) (h1 := fun Wx hSw => by (obtain ⟨va, vc, w2, hr, S2⟩ := hSw.appendV 0 rfl rfl (hSw.seesV 1 rfl) mm HMM.out HMB.out; exact symAppend _ _ _ _ rfl _ _ rfl rfl hr ⟨_, ⟨va, vc, rfl, rfl⟩, S2⟩)) (h2 := fun v E1 hvE => ?_) (hs := nilS)
    obtain ⟨va_14_3, vc_14_3, rfl, rfl⟩ := hvE
    simp only [Act.put, pa]; try dsimp only [List.set]
    refine quietS 7 ?_
    simp only [Act.put, pa]; try dsimp only [List.set]
    refine doneS (h := fun w14 S => ?_)
    go_wp2_with fail
    as_aux_lemma => (go_meet; exact ⟨_, _, _, _, rfl, S⟩)
  case rest =>
    obtain ⟨a10, c10, a11, c11, rfl, S⟩ := hcut
    replace S : Sep w (valsR (.slice a10 mm c10) (P ++ R) :: valsR (.slice a11 R.length c11) R :: boxZ qa91 :: boxN qb92 typeError :: boxW qa82 4 4 ⟨#[]⟩ :: boxE qb83 :: heapR h (HX [rowO 1 (by decide) P, rowO 1 (by decide) R, rowO 2 (by decide) R, rowO 1 (by decide) (P ++ R)]) :: boxW qO2 4 3 ⟨#[]⟩ :: boxW qY2 4 2 ⟨#[]⟩ :: boxW qX2 4 1 ⟨#[]⟩ :: []) wc := by rw [Hb10_12.out] at S; exact S
    clear Hb10_12 Kb10_12 KI10_2 KI10_5 Cb10_12_0 Cb10_12_1
    refine named (valsR (.slice a10 mm c10) (P ++ R) :: valsR (.slice a11 R.length c11) R :: boxZ qa91 :: boxN qb92 typeError :: boxW qa82 4 4 ⟨#[]⟩ :: boxE qb83 :: heapR h (HX [rowO 1 (by decide) P, rowO 1 (by decide) R, rowO 2 (by decide) R, rowO 1 (by decide) (P ++ R)]) :: boxW qO2 4 3 ⟨#[]⟩ :: boxW qY2 4 2 ⟨#[]⟩ :: boxW qX2 4 1 ⟨#[]⟩ :: [] : List Res) fun b11_14 hb11_14 => ?_
    have Hb11_14 := Lib.hid hb11_14
    have Kb11_14 : Hid (∀ W (Q : List Res), Sep w (Q ++ b11_14) W → True) := Lib.hid fun W Q T => by
      rw [hb11_14] at T
      trivial
    have Cb11_14_0 : Hid (∀ W (Q : List Res), Sep w (Q ++ b11_14) W → W.cell? ⟨qX2, 0, none⟩ = some (.int .i64 4) ∧ W.cell? ⟨qX2, 1, none⟩ = some (.int .i64 1) ∧ W.cell? ⟨qX2, 2, none⟩ = some (.string ⟨#[]⟩)) := Lib.hid fun W Q T => by
      rw [hb11_14] at T
      have i0 := T.box (b := qX2) (o := objW 4 1 ⟨#[]⟩) (Q.length + 9) (by rw [List.getElem?_append_right (by omega), Nat.add_sub_cancel_left]; rfl)
      exact ⟨cellAt i0 0 rfl, cellAt i0 1 rfl, cellAt i0 2 rfl⟩
    have Cb11_14_1 : Hid (∀ W (Q : List Res), Sep w (Q ++ b11_14) W → W.cell? ⟨qY2, 0, none⟩ = some (.int .i64 4) ∧ W.cell? ⟨qY2, 1, none⟩ = some (.int .i64 2) ∧ W.cell? ⟨qY2, 2, none⟩ = some (.string ⟨#[]⟩)) := Lib.hid fun W Q T => by
      rw [hb11_14] at T
      have i0 := T.box (b := qY2) (o := objW 4 2 ⟨#[]⟩) (Q.length + 8) (by rw [List.getElem?_append_right (by omega), Nat.add_sub_cancel_left]; rfl)
      exact ⟨cellAt i0 0 rfl, cellAt i0 1 rfl, cellAt i0 2 rfl⟩
    have Cb11_14_2 : Hid (∀ W (Q : List Res), Sep w (Q ++ b11_14) W → W.cell? ⟨qa82, 0, none⟩ = some (.int .i64 4) ∧ W.cell? ⟨qa82, 1, none⟩ = some (.int .i64 4) ∧ W.cell? ⟨qa82, 2, none⟩ = some (.string ⟨#[]⟩)) := Lib.hid fun W Q T => by
      rw [hb11_14] at T
      have i0 := T.box (b := qa82) (o := objW 4 4 ⟨#[]⟩) (Q.length + 4) (by rw [List.getElem?_append_right (by omega), Nat.add_sub_cancel_left]; rfl)
      exact ⟨cellAt i0 0 rfl, cellAt i0 1 rfl, cellAt i0 2 rfl⟩
    have Cb11_14_3 : Hid (∀ W (Q : List Res), Sep w (Q ++ b11_14) W → W.cell? ⟨qb83, 0, none⟩ = some (.string ⟨#[]⟩) ∧ W.cell? ⟨qb83, 1, none⟩ = some (.int .i64 0) ∧ W.cell? ⟨qb83, 2, none⟩ = some (.int .i64 0) ∧ W.cell? ⟨qb83, 3, none⟩ = some (.string ⟨#[]⟩) ∧ W.cell? ⟨qb83, 4, none⟩ = some (.bool false)) := Lib.hid fun W Q T => by
      rw [hb11_14] at T
      have i0 := T.box (b := qb83) (o := objE) (Q.length + 5) (by rw [List.getElem?_append_right (by omega), Nat.add_sub_cancel_left]; rfl)
      exact ⟨cellAt i0 0 rfl, cellAt i0 1 rfl, cellAt i0 2 rfl, cellAt i0 3 rfl, cellAt i0 4 rfl⟩
    have Cb11_14_4 : Hid (∀ W (Q : List Res), Sep w (Q ++ b11_14) W → W.cell? ⟨qb92, 0, none⟩ = some (.string typeError) ∧ W.cell? ⟨qb92, 1, none⟩ = some (.int .i64 0) ∧ W.cell? ⟨qb92, 2, none⟩ = some (.int .i64 0) ∧ W.cell? ⟨qb92, 3, none⟩ = some (.string ⟨#[]⟩) ∧ W.cell? ⟨qb92, 4, none⟩ = some (.bool false)) := Lib.hid fun W Q T => by
      rw [hb11_14] at T
      have i0 := T.box (b := qb92) (o := objN typeError) (Q.length + 3) (by rw [List.getElem?_append_right (by omega), Nat.add_sub_cancel_left]; rfl)
      exact ⟨cellAt i0 0 rfl, cellAt i0 1 rfl, cellAt i0 2 rfl, cellAt i0 3 rfl, cellAt i0 4 rfl⟩
    have K11_1 : Hid (∀ W (Q : List Res), Sep w (Q ++ b11_14) W → Calls Tryz.prog 19 #[excZ] W fun e W' => e = .returned (.bool true) ∧ Sep w (Q ++ b11_14) W') := Lib.hid fun W Q T => by
      exact (none_z W).mono fun e W' ⟨e1, e2⟩ => ⟨e1, T.later e2⟩
    have K11_5 : Hid (∀ W (Q : List Res), Sep w (Q ++ b11_14) W → Calls Tryz.prog 21 #[excN typeError, .string typeError] W fun e W' => e = .returned (.bool true) ∧ Sep w (Q ++ b11_14) W') := Lib.hid fun W Q T => by
      exact (raised_type W).mono fun e W' ⟨e1, e2⟩ => ⟨e1, T.later e2⟩
    have K11_11 : Hid (∀ W (Q : List Res), Sep w (Q ++ b11_14) W → Calls Tryz.prog 30 #[.pointer (some ⟨h, 0, none⟩), .agg #[.int .i64 4, .int .i64 4, .string ⟨#[]⟩]] W fun e W' => e = .returned (.int .i64 1) ∧ Sep w (Q ++ b11_14) W') := Lib.hid fun W Q T => by
      rw [Hb11_14.out] at T ⊢
      exact kind_at T (Q.length + 6) (by rw [List.getElem?_append_right (by omega), Nat.add_sub_cancel_left]; rfl) (vX 4 (by decide)) 1 rfl
    have K11_14 : Hid (∀ W (Q : List Res), Sep w (Q ++ b11_14) W → Calls Tryz.prog 30 #[.pointer (some ⟨h, 0, none⟩), .agg #[.int .i64 4, .int .i64 1, .string ⟨#[]⟩]] W fun e W' => e = .returned (.int .i64 1) ∧ Sep w (Q ++ b11_14) W') := Lib.hid fun W Q T => by
      rw [Hb11_14.out] at T ⊢
      exact kind_at T (Q.length + 6) (by rw [List.getElem?_append_right (by omega), Nat.add_sub_cancel_left]; rfl) (vX 1 (by decide)) 1 rfl
    have K11_38 : Hid (∀ W (Q : List Res), Sep w (Q ++ b11_14) W → Calls Tryz.prog 24 #[.pointer (some ⟨h, 0, none⟩), .agg #[.int .i64 4, .int .i64 1, .string ⟨#[]⟩]] W fun e W' => e = .returned (.int .i64 P.length) ∧ Sep w (Q ++ b11_14) W') := Lib.hid fun W Q T => by
      rw [Hb11_14.out] at T ⊢
      exact len_at T (Q.length + 6) (by rw [List.getElem?_append_right (by omega), Nat.add_sub_cancel_left]; rfl) (vX 1 (by decide)) P.length rfl
    have K11_45 : Hid (∀ W (Q : List Res), Sep w (Q ++ b11_14) W → Calls Tryz.prog 24 #[.pointer (some ⟨h, 0, none⟩), .agg #[.int .i64 4, .int .i64 2, .string ⟨#[]⟩]] W fun e W' => e = .returned (.int .i64 R.length) ∧ Sep w (Q ++ b11_14) W') := Lib.hid fun W Q T => by
      rw [Hb11_14.out] at T ⊢
      exact len_at T (Q.length + 6) (by rw [List.getElem?_append_right (by omega), Nat.add_sub_cancel_left]; rfl) (vX 2 (by decide)) R.length rfl
    have KI11_30 : Hid (∀ W (Q : List Res), Sep w (Q ++ b11_14) W → Calls Tryz.prog 31 #[.pointer (some ⟨h, 0, none⟩), .agg #[.int .i64 4, .int .i64 4, .string ⟨#[]⟩]] W fun e W' => ∃ a c, e = .returned (.slice a Q4.length c) ∧ Sep w (valsR (.slice a Q4.length c) Q4 :: (Q ++ b11_14)) W') := Lib.hid fun W Q T => by
      rw [Hb11_14.out] at T ⊢
      exact items_at T (Q.length + 6) (by rw [List.getElem?_append_right (by omega), Nat.add_sub_cancel_left]; rfl) (HG4.out.good (by simp)) (by decide) (vX 4 (by decide)) Q4 HQ4.out.symm
    have KA : Hid (∀ W (Q : List Res), Sep w (Q ++ b11_14) W → SeesV W (.slice a10 mm c10) (P ++ R)) := Lib.hid fun W Q T => by rw [Hb11_14.out] at T; exact T.seesV (Q.length + 0) (by rw [List.getElem?_append_right (by omega), Nat.add_sub_cancel_left]; rfl)
    replace S := Lib.hid S
    clear hb11_14
    go_upto_region 11 with fail
    have S1 : Sep w ([] ++ b11_14) (wc) := by rw [Hb11_14.out]; exact S.out
    clear S
    refine regionP 30 19 (E := [emptyR]) (base := b11_14) (Sep.putE S1) ?_
    clear S1
    refine quietP (hy := fun E Wx hSw => by ((refine and5 (Cb11_14_3.out _ _ hSw) fun u0 u1 u2 u3 u4 => ?_); go_simp; exact ⟨rfl, hSw⟩)) (h := ?_)
    simp only [Act.put, pa]; try dsimp only [List.set]
    refine quietP (hy := fun E Wx hSw => by (go_simp; exact symCall (K11_1.out _ _ hSw))) (h := ?_)
    simp only [Act.put, pa]; try dsimp only [List.set]
    iterate 2 (refine quietP ?_; simp only [Act.put, pa]; try dsimp only [List.set])
    refine quietP (hy := fun E Wx hSw => by ((refine and5 (Cb11_14_4.out _ _ hSw) fun u0 u1 u2 u3 u4 => ?_); go_simp; exact ⟨rfl, hSw⟩)) (h := ?_)
    simp only [Act.put, pa]; try dsimp only [List.set]
    refine quietP (hy := fun E Wx hSw => by (go_simp; exact symCall (K11_5.out _ _ hSw))) (h := ?_)
    simp only [Act.put, pa]; try dsimp only [List.set]
    iterate 4 (refine quietP ?_; simp only [Act.put, pa]; try dsimp only [List.set])
    refine quietP (hy := fun E Wx hSw => by ((refine and3 (Cb11_14_2.out _ _ hSw) fun u0 u1 u2 => ?_); go_simp; exact ⟨rfl, hSw⟩)) (h := ?_)
    simp only [Act.put, pa]; try dsimp only [List.set]
    refine quietP (hy := fun E Wx hSw => by (go_simp; exact symCall (K11_11.out _ _ hSw))) (h := ?_)
    simp only [Act.put, pa]; try dsimp only [List.set]
    refine quietP ?_
    simp only [Act.put, pa]; try dsimp only [List.set]
    refine quietP (hy := fun E Wx hSw => by ((refine and3 (Cb11_14_0.out _ _ hSw) fun u0 u1 u2 => ?_); go_simp; exact ⟨rfl, hSw⟩)) (h := ?_)
    simp only [Act.put, pa]; try dsimp only [List.set]
    refine quietP (hy := fun E Wx hSw => by (go_simp; exact symCall (K11_14.out _ _ hSw))) (h := ?_)
    simp only [Act.put, pa]; try dsimp only [List.set]
    iterate 3 (refine quietP ?_; simp only [Act.put, pa]; try dsimp only [List.set])
    refine quietP (hy := fun E Wx hSw => by ((refine and3 (Cb11_14_2.out _ _ hSw) fun u0 u1 u2 => ?_); go_simp; exact ⟨rfl, hSw⟩)) (h := ?_)
    simp only [Act.put, pa]; try dsimp only [List.set]
    refine quietP (hy := fun E Wx hSw => by ((refine and3 (Cb11_14_0.out _ _ hSw) fun u0 u1 u2 => ?_); go_simp; exact ⟨rfl, hSw⟩)) (h := ?_)
    simp only [Act.put, pa]; try dsimp only [List.set]
    iterate 3 (refine quietP ?_; simp only [Act.put, pa]; try dsimp only [List.set])
    refine quietP (hy := fun E Wx hSw => by ((refine and3 (Cb11_14_2.out _ _ hSw) fun u0 u1 u2 => ?_); go_simp; exact ⟨rfl, hSw⟩)) (h := ?_)
    simp only [Act.put, pa]; try dsimp only [List.set]
    refine quietP (hy := fun E Wx hSw => by ((refine and3 (Cb11_14_1.out _ _ hSw) fun u0 u1 u2 => ?_); go_simp; exact ⟨rfl, hSw⟩)) (h := ?_)
    simp only [Act.put, pa]; try dsimp only [List.set]
    iterate 4 (refine quietP ?_; simp only [Act.put, pa]; try dsimp only [List.set])
    refine quietP (hy := fun E Wx hSw => by ((refine and3 (Cb11_14_2.out _ _ hSw) fun u0 u1 u2 => ?_); go_simp; exact ⟨rfl, hSw⟩)) (h := ?_)
    simp only [Act.put, pa]; try dsimp only [List.set]
    refine endP ?_
    refine quietS 31 ?_
    simp only [Act.put, pa]; try dsimp only [List.set]
    refine readyS [30] ?_
    refine stepS (fun v E1 => ∃ (va_16_1 : Option Addr) (vc_16_1 : Nat), v = .slice va_16_1 Q4.length vc_16_1 ∧ E1 = [valsR (.slice va_16_1 Q4.length vc_16_1) Q4]) (h1 := fun Wx hSw => by (go_simp; refine symCallN ?_; exact (KI11_30.out _ _ hSw).mono fun e W' ⟨a, c, e1, e2⟩ => ⟨_, _, e1, ⟨a, c, rfl, rfl⟩, e2.into 0 rfl⟩)) (h2 := fun v E1 hvE => ?_) (hs := nilS)
    obtain ⟨va_16_1, vc_16_1, rfl, rfl⟩ := hvE
    simp only [Act.put, pa]; try dsimp only [List.set]
    refine readyS [32] ?_
    refine detS (.bool true) [valsR (.slice va_16_1 Q4.length vc_16_1) Q4] (h1 := fun Wx hSw => by (go_simp; refine symCall ?_; exact same_at hSw (hSw.seesV 0 rfl) (KA.out _ _ hSw) HQ4.out)) (h2 := ?_) (hs := nilS)
    simp only [Act.put, pa]; try dsimp only [List.set]
    refine quietS 33 ?_
    simp only [Act.put, pa]; try dsimp only [List.set]
    refine quietS 34 ?_
    simp only [Act.put, pa]; try dsimp only [List.set]
    refine quietS 35 ?_
    simp only [Act.put, pa]; try dsimp only [List.set]
    refine quietS 36 ?_
    simp only [Act.put, pa]; try dsimp only [List.set]
    refine quietS 37 (hy := fun E Wx hSw => by ((refine and3 (Cb11_14_0.out _ _ hSw) fun u0 u1 u2 => ?_); go_simp; exact ⟨rfl, hSw⟩)) (h := ?_)
    simp only [Act.put, pa]; try dsimp only [List.set]
    refine quietS 38 (hy := fun E Wx hSw => by (go_simp; exact symCall (K11_38.out _ _ hSw))) (h := ?_)
    simp only [Act.put, pa]; try dsimp only [List.set]
    refine quietS 39 ?_
    simp only [Act.put, pa]; try dsimp only [List.set]
    refine quietS 40 ?_
    simp only [Act.put, pa]; try dsimp only [List.set]
    refine quietS 41 ?_
    simp only [Act.put, pa]; try dsimp only [List.set]
    refine quietS 42 ?_
    simp only [Act.put, pa]; try dsimp only [List.set]
    refine quietS 43 ?_
    simp only [Act.put, pa]; try dsimp only [List.set]
    refine quietS 44 (hy := fun E Wx hSw => by ((refine and3 (Cb11_14_1.out _ _ hSw) fun u0 u1 u2 => ?_); go_simp; exact ⟨rfl, hSw⟩)) (h := ?_)
    simp only [Act.put, pa]; try dsimp only [List.set]
    refine quietS 45 (hy := fun E Wx hSw => by (go_simp; exact symCall (K11_45.out _ _ hSw))) (h := ?_)
    simp only [Act.put, pa]; try dsimp only [List.set]
    refine quietS 46 ?_
    simp only [Act.put, pa]; try dsimp only [List.set]
    refine quietS 47 ?_
    simp only [Act.put, pa]; try dsimp only [List.set]
    refine quietS 48 ?_
    simp only [Act.put, pa]; try dsimp only [List.set]
    refine doneS (h := fun w16 S => ?_)
    replace S : Sep w (valsR (.slice va_16_1 Q4.length vc_16_1) Q4 :: valsR (.slice a10 mm c10) (P ++ R) :: valsR (.slice a11 R.length c11) R :: boxZ qa91 :: boxN qb92 typeError :: boxW qa82 4 4 ⟨#[]⟩ :: boxE qb83 :: heapR h (HX [rowO 1 (by decide) P, rowO 1 (by decide) R, rowO 2 (by decide) R, rowO 1 (by decide) (P ++ R)]) :: boxW qO2 4 3 ⟨#[]⟩ :: boxW qY2 4 2 ⟨#[]⟩ :: boxW qX2 4 1 ⟨#[]⟩ :: []) w16 := by rw [Hb11_14.out] at S; exact S
    clear Hb11_14 Kb11_14 K11_1 K11_5 K11_11 K11_14 K11_38 K11_45 KI11_30 KA Cb11_14_0 Cb11_14_1 Cb11_14_2 Cb11_14_3 Cb11_14_4
    replace S : Sep w ([valsR (.slice va_16_1 Q4.length vc_16_1) Q4, valsR (.slice a10 mm c10) (P ++ R), valsR (.slice a11 R.length c11) R, boxZ qa91, boxN qb92 typeError, boxE qb83, boxW qO2 4 3 ⟨#[]⟩, boxW qX2 4 1 ⟨#[]⟩, boxW qY2 4 2 ⟨#[]⟩, boxW qa82 4 4 ⟨#[]⟩, heapR h (HX [rowO 1 (by decide) P, rowO 1 (by decide) R, rowO 2 (by decide) R, rowO 1 (by decide) (P ++ R)])] ++ []) (w16) := by
      refine (show Sep w ([valsR (.slice va_16_1 Q4.length vc_16_1) Q4, valsR (.slice a10 mm c10) (P ++ R), valsR (.slice a11 R.length c11) R, boxZ qa91, boxN qb92 typeError, boxW qa82 4 4 ⟨#[]⟩, boxE qb83, heapR h (HX [rowO 1 (by decide) P, rowO 1 (by decide) R, rowO 2 (by decide) R, rowO 1 (by decide) (P ++ R)]), boxW qO2 4 3 ⟨#[]⟩, boxW qY2 4 2 ⟨#[]⟩, boxW qX2 4 1 ⟨#[]⟩] ++ []) _ from S).perm ?_
      exact List.Perm.append_right [] (perm_of (l := [valsR (.slice va_16_1 Q4.length vc_16_1) Q4, valsR (.slice a10 mm c10) (P ++ R), valsR (.slice a11 R.length c11) R, boxZ qa91, boxN qb92 typeError, boxW qa82 4 4 ⟨#[]⟩, boxE qb83, heapR h (HX [rowO 1 (by decide) P, rowO 1 (by decide) R, rowO 2 (by decide) R, rowO 1 (by decide) (P ++ R)]), boxW qO2 4 3 ⟨#[]⟩, boxW qY2 4 2 ⟨#[]⟩, boxW qX2 4 1 ⟨#[]⟩]) [0, 1, 2, 3, 4, 6, 8, 10, 9, 5, 7] (by show (List.range' 0 11).Perm [0, 1, 2, 3, 4, 6, 8, 10, 9, 5, 7]; decide) (by rfl))
    iterate 7 replace S := S.tail
    replace S : Sep w (boxW qX2 4 1 ⟨#[]⟩ :: boxW qY2 4 2 ⟨#[]⟩ :: boxW qa82 4 4 ⟨#[]⟩ :: heapR h (HX [rowO 1 (by decide) P, rowO 1 (by decide) R, rowO 2 (by decide) R, rowO 1 (by decide) (P ++ R)]) :: []) (w16) := S
    obtain ⟨m7, hm7, h70, h77⟩ := and7 HNB.out
    have HM7 := Lib.hid hm7
    clear hm7
    obtain ⟨m, hm⟩ : ∃ m : Int, m = m7 - 2 := ⟨_, rfl⟩
    have hw7 : IntKind.i64.wrap m7 = m7 := IntWalk.i64_in _ (by omega)
    have hw8 : IntKind.i64.wrap (m7 - 2) = m := by rw [hm]; exact IntWalk.i64_in _ (by omega)
    have hm1 : -2 ≤ m ∧ m ≤ 5 := by omega
    have HMI := Lib.hid (show okI m from okI_of (by omega))
    have HM1 := Lib.hid hm1
    clear hm h70 h77 hm1
    refine named (boxW qX2 4 1 ⟨#[]⟩ :: boxW qY2 4 2 ⟨#[]⟩ :: boxW qa82 4 4 ⟨#[]⟩ :: heapR h (HX [rowO 1 (by decide) P, rowO 1 (by decide) R, rowO 2 (by decide) R, rowO 1 (by decide) (P ++ R)]) :: [] : List Res) fun b13_16 hb13_16 => ?_
    have Hb13_16 := Lib.hid hb13_16
    have Kb13_16 : Hid (∀ W (Q : List Res), Sep w (Q ++ b13_16) W → True) := Lib.hid fun W Q T => by
      rw [hb13_16] at T
      trivial
    replace S := Lib.hid S
    clear hb13_16
    go_upto_region 13 with fail
    have S1 : Sep w ([] ++ b13_16) (w16) := by rw [Hb13_16.out]; exact S.out
    clear S
    refine regionL (E := []) (base := b13_16) S1 ?_
    clear S1
    refine quietL ?_
    simp only [Act.put, pa]; try dsimp only [List.set]
    refine quietL (v := .int .i8 m7) (hy := fun E Wx hSw => by (rw [← HM7.out]; go_simp; exact ⟨rfl, hSw⟩)) (h := ?_)
    simp only [Act.put, pa]; try dsimp only [List.set]
    iterate 3 (refine quietL ?_; simp only [Act.put, pa]; try dsimp only [List.set])
    intro w18 S
    replace S : Sep w (boxW qX2 4 1 ⟨#[]⟩ :: boxW qY2 4 2 ⟨#[]⟩ :: boxW qa82 4 4 ⟨#[]⟩ :: heapR h (HX [rowO 1 (by decide) P, rowO 1 (by decide) R, rowO 2 (by decide) R, rowO 1 (by decide) (P ++ R)]) :: []) w18 := by rw [Hb13_16.out] at S; exact S
    clear Hb13_16 Kb13_16
    clear hw7 hw8
    have HML := Lib.hid (show m.toNat * P.length ≤ 40 from by
      have h1 : m.toNat ≤ 5 := by have := HM1.out; omega
      exact Nat.le_trans (Nat.mul_le_mul h1 H8P.out) (by decide))
    obtain ⟨Q5, hQ5⟩ : ∃ Q, Q = repl m.toNat P := ⟨_, rfl⟩
    have HQ5 := Lib.hid hQ5
    clear hQ5
    have HG5 : Hid (HXG [rowO 1 (by decide) P, rowO 1 (by decide) R, rowO 2 (by decide) R, rowO 1 (by decide) (P ++ R), rowO 1 (by decide) (repl m.toNat P)]) := Lib.hid (HG4.out.snoc (by rw [repl_len]; exact HML.out))
    replace S : Sep w (heapR h (HX [rowO 1 (by decide) P, rowO 1 (by decide) R, rowO 2 (by decide) R, rowO 1 (by decide) (P ++ R)]) :: boxW qX2 4 1 ⟨#[]⟩ :: boxW qY2 4 2 ⟨#[]⟩ :: boxW qa82 4 4 ⟨#[]⟩ :: []) (w18) := by
      refine (show Sep w ([boxW qX2 4 1 ⟨#[]⟩, boxW qY2 4 2 ⟨#[]⟩, boxW qa82 4 4 ⟨#[]⟩, heapR h (HX [rowO 1 (by decide) P, rowO 1 (by decide) R, rowO 2 (by decide) R, rowO 1 (by decide) (P ++ R)])] ++ []) _ from S).perm ?_
      exact List.Perm.append_right [] (perm_of (l := [boxW qX2 4 1 ⟨#[]⟩, boxW qY2 4 2 ⟨#[]⟩, boxW qa82 4 4 ⟨#[]⟩, heapR h (HX [rowO 1 (by decide) P, rowO 1 (by decide) R, rowO 2 (by decide) R, rowO 1 (by decide) (P ++ R)])]) [3, 0, 1, 2] (by show (List.range' 0 4).Perm [3, 0, 1, 2]; decide) (by rfl))
    refine named (boxW qX2 4 1 ⟨#[]⟩ :: boxW qY2 4 2 ⟨#[]⟩ :: boxW qa82 4 4 ⟨#[]⟩ :: [] : List Res) fun b14_18 hb14_18 => ?_
    have Hb14_18 := Lib.hid hb14_18
    have Kb14_18 : Hid (∀ W (Q : List Res), Sep w (Q ++ b14_18) W → True) := Lib.hid fun W Q T => by
      rw [hb14_18] at T
      trivial
    have Cb14_18_0 : Hid (∀ W (Q : List Res), Sep w (Q ++ b14_18) W → W.cell? ⟨qX2, 0, none⟩ = some (.int .i64 4) ∧ W.cell? ⟨qX2, 1, none⟩ = some (.int .i64 1) ∧ W.cell? ⟨qX2, 2, none⟩ = some (.string ⟨#[]⟩)) := Lib.hid fun W Q T => by
      rw [hb14_18] at T
      have i0 := T.box (b := qX2) (o := objW 4 1 ⟨#[]⟩) (Q.length + 0) (by rw [List.getElem?_append_right (by omega), Nat.add_sub_cancel_left]; rfl)
      exact ⟨cellAt i0 0 rfl, cellAt i0 1 rfl, cellAt i0 2 rfl⟩
    have K14_3 : Hid (∀ W (Q : List Res), Sep w (Q ++ b14_18) W → Calls Tryz.prog 16 #[.int .i64 m] W fun e W' => e = .returned (.agg #[.int .i64 2, .int .i64 m, .string ⟨#[]⟩]) ∧ Sep w (Q ++ b14_18) W') := Lib.hid fun W Q T => by
      exact (lnum_ok W m).mono fun e W' ⟨e1, e2⟩ => ⟨e1, T.later e2⟩
    replace S := Lib.hid S
    clear hb14_18
    go_upto_region 14 with fail
    go_cut [23, 24] (fun s23 s24 wx => ∃ qq0_14 qq1_14, s23 = .pointer (some ⟨qq0_14, 0, none⟩) ∧ s24 = .pointer (some ⟨qq1_14, 0, none⟩) ∧ Sep w ([boxW qq0_14 4 5 ⟨#[]⟩, boxE qq1_14, heapR h (HX [rowO 1 (by decide) P, rowO 1 (by decide) R, rowO 2 (by decide) R, rowO 1 (by decide) (P ++ R), rowO 1 (by decide) (repl m.toNat P)])] ++ b14_18) wx)
    case first =>
      have S1 : Sep w ([heapR h (HX [rowO 1 (by decide) P, rowO 1 (by decide) R, rowO 2 (by decide) R, rowO 1 (by decide) (P ++ R)])] ++ b14_18) (w18) := by rw [Hb14_18.out]; exact S.out
      clear S
      refine regionP 4 8 (E := [emptyR, emptyR, heapR h (HX [rowO 1 (by decide) P, rowO 1 (by decide) R, rowO 2 (by decide) R, rowO 1 (by decide) (P ++ R)])]) (base := b14_18) (Sep.putE (Sep.putE S1)) ?_
      clear S1
      refine quietP ?_
      simp only [Act.put, pa]; try dsimp only [List.set]
      refine quietP (hy := fun E Wx hSw => by ((refine and3 (Cb14_18_0.out _ _ hSw) fun u0 u1 u2 => ?_); go_simp; exact ⟨rfl, hSw⟩)) (h := ?_)
      simp only [Act.put, pa]; try dsimp only [List.set]
      refine quietP ?_
      simp only [Act.put, pa]; try dsimp only [List.set]
      refine quietP (hy := fun E Wx hSw => by (go_simp; exact symCall (K14_3.out _ _ hSw))) (h := ?_)
      simp only [Act.put, pa]; try dsimp only [List.set]
      refine endP ?_
      refine readyS [4, 8, 9] ?_
      refine detS (.tuple #[.agg #[.int .i64 4, .int .i64 5, .string ⟨#[]⟩], excZ]) [emptyR, emptyR, heapR h (HX [rowO 1 (by decide) P, rowO 1 (by decide) R, rowO 2 (by decide) R, rowO 1 (by decide) (P ++ R), rowO 1 (by decide) (repl m.toNat P)])] (h1 := fun Wx hSw => by (go_simp; refine symCall ?_; exact bin_mul_row hSw 2 rfl (HG4.out.good (by simp)) (by decide) (vX 1 (by decide)) (vI m HMI.out) rfl rfl (show m.toNat * P.length ≤ 4096 from Nat.le_trans HML.out (by decide)))) (h2 := ?_) (hs := ?_)
      · simp only [Act.put, pa]; try dsimp only [List.set]
        refine quietS 5 ?_
        simp only [Act.put, pa]; try dsimp only [List.set]
        refine quietS 6 ?_
        simp only [Act.put, pa]; try dsimp only [List.set]
        refine quietS 7 ?_
        simp only [Act.put, pa]; try dsimp only [List.set]
        refine readyS [8, 9] ?_
        refine allocS 0 rfl (fun q => .pointer (some ⟨q, 0, none⟩)) (.cells #[.int .i64 0, .int .i64 0, .string ⟨#[]⟩] 29) (h1 := fun Wx => by go_simp) (h2 := fun qa142 => ?_) (hs := ?_)
        · simp only [Act.put, pa]; try dsimp only [List.set]
          try simp only [List.set_cons_zero, List.set_cons_succ]
          refine readyS [9] ?_
          refine allocS 1 rfl (fun q => .pointer (some ⟨q, 0, none⟩)) (.cells #[.string ⟨#[]⟩, .int .i64 0, .int .i64 0, .string ⟨#[]⟩, .bool false] 38) (h1 := fun Wx => by go_simp) (h2 := fun qb143 => ?_) (hs := nilS)
          simp only [Act.put, pa]; try dsimp only [List.set]
          try simp only [List.set_cons_zero, List.set_cons_succ]
          refine readyS [10] ?_
          refine detS undef [boxW qa142 4 5 ⟨#[]⟩, boxE qb143, heapR h (HX [rowO 1 (by decide) P, rowO 1 (by decide) R, rowO 2 (by decide) R, rowO 1 (by decide) (P ++ R), rowO 1 (by decide) (repl m.toNat P)])] (h1 := fun Wx hSw => by (have hz := hSw.box (b := qa142) (o := objZ) 0 rfl; refine useZ3 hz fun z0 z1 z2 y0 y1 y2 => ?_; go_simp; exact ⟨rfl, hSw.set3 0 rfl (.int .i64 4) (.int .i64 5) (.string ⟨#[]⟩)⟩)) (h2 := ?_) (hs := nilS)
          simp only [Act.put, pa]; try dsimp only [List.set]
          refine readyS [11] ?_
          refine detS undef [boxW qa142 4 5 ⟨#[]⟩, boxE qb143, heapR h (HX [rowO 1 (by decide) P, rowO 1 (by decide) R, rowO 2 (by decide) R, rowO 1 (by decide) (P ++ R), rowO 1 (by decide) (repl m.toNat P)])] (h1 := fun Wx hSw => by (have hz := hSw.box (b := qb143) (o := objE) 1 rfl; refine useZ5 hz fun z0 z1 z2 z3 z4 y0 y1 y2 y3 y4 => ?_; go_simp; exact ⟨rfl, hSw.set5 1 rfl (.string ⟨#[]⟩) (.int .i64 0) (.int .i64 0) (.string ⟨#[]⟩) (.bool false)⟩)) (h2 := ?_) (hs := nilS)
          simp only [Act.put, pa]; try dsimp only [List.set]
          refine doneS (h := fun w20 S => ?_)
          go_wp2_with fail
          as_aux_lemma => (go_meet; exact ⟨_, _, rfl, rfl, S⟩)
        refine allocS 1 rfl (fun q => .pointer (some ⟨q, 0, none⟩)) (.cells #[.string ⟨#[]⟩, .int .i64 0, .int .i64 0, .string ⟨#[]⟩, .bool false] 38) (h1 := fun Wx => by go_simp) (h2 := fun qb146 => ?_) (hs := ?_)
        · simp only [Act.put, pa]; try dsimp only [List.set]
          try simp only [List.set_cons_zero, List.set_cons_succ]
          refine readyS [8] ?_
          refine allocS 0 rfl (fun q => .pointer (some ⟨q, 0, none⟩)) (.cells #[.int .i64 0, .int .i64 0, .string ⟨#[]⟩] 29) (h1 := fun Wx => by go_simp) (h2 := fun qa147 => ?_) (hs := nilS)
          simp only [Act.put, pa]; try dsimp only [List.set]
          try simp only [List.set_cons_zero, List.set_cons_succ]
          refine readyS [10] ?_
          refine detS undef [boxW qa147 4 5 ⟨#[]⟩, boxE qb146, heapR h (HX [rowO 1 (by decide) P, rowO 1 (by decide) R, rowO 2 (by decide) R, rowO 1 (by decide) (P ++ R), rowO 1 (by decide) (repl m.toNat P)])] (h1 := fun Wx hSw => by (have hz := hSw.box (b := qa147) (o := objZ) 0 rfl; refine useZ3 hz fun z0 z1 z2 y0 y1 y2 => ?_; go_simp; exact ⟨rfl, hSw.set3 0 rfl (.int .i64 4) (.int .i64 5) (.string ⟨#[]⟩)⟩)) (h2 := ?_) (hs := nilS)
          simp only [Act.put, pa]; try dsimp only [List.set]
          refine readyS [11] ?_
          refine detS undef [boxW qa147 4 5 ⟨#[]⟩, boxE qb146, heapR h (HX [rowO 1 (by decide) P, rowO 1 (by decide) R, rowO 2 (by decide) R, rowO 1 (by decide) (P ++ R), rowO 1 (by decide) (repl m.toNat P)])] (h1 := fun Wx hSw => by (have hz := hSw.box (b := qb146) (o := objE) 1 rfl; refine useZ5 hz fun z0 z1 z2 z3 z4 y0 y1 y2 y3 y4 => ?_; go_simp; exact ⟨rfl, hSw.set5 1 rfl (.string ⟨#[]⟩) (.int .i64 0) (.int .i64 0) (.string ⟨#[]⟩) (.bool false)⟩)) (h2 := ?_) (hs := nilS)
          simp only [Act.put, pa]; try dsimp only [List.set]
          refine doneS (h := fun w20 S => ?_)
          go_wp2_with fail
          as_aux_lemma => (go_meet; exact ⟨_, _, rfl, rfl, S⟩)
        exact nilS
      refine allocS 0 rfl (fun q => .pointer (some ⟨q, 0, none⟩)) (.cells #[.int .i64 0, .int .i64 0, .string ⟨#[]⟩] 29) (h1 := fun Wx => by go_simp) (h2 := fun qa1410 => ?_) (hs := ?_)
      · simp only [Act.put, pa]; try dsimp only [List.set]
        try simp only [List.set_cons_zero, List.set_cons_succ]
        refine readyS [4, 9] ?_
        refine detS (.tuple #[.agg #[.int .i64 4, .int .i64 5, .string ⟨#[]⟩], excZ]) [boxZ qa1410, emptyR, heapR h (HX [rowO 1 (by decide) P, rowO 1 (by decide) R, rowO 2 (by decide) R, rowO 1 (by decide) (P ++ R), rowO 1 (by decide) (repl m.toNat P)])] (h1 := fun Wx hSw => by (go_simp; refine symCall ?_; exact bin_mul_row hSw 2 rfl (HG4.out.good (by simp)) (by decide) (vX 1 (by decide)) (vI m HMI.out) rfl rfl (show m.toNat * P.length ≤ 4096 from Nat.le_trans HML.out (by decide)))) (h2 := ?_) (hs := ?_)
        · simp only [Act.put, pa]; try dsimp only [List.set]
          refine quietS 5 ?_
          simp only [Act.put, pa]; try dsimp only [List.set]
          refine quietS 6 ?_
          simp only [Act.put, pa]; try dsimp only [List.set]
          refine quietS 7 ?_
          simp only [Act.put, pa]; try dsimp only [List.set]
          refine readyS [9] ?_
          refine allocS 1 rfl (fun q => .pointer (some ⟨q, 0, none⟩)) (.cells #[.string ⟨#[]⟩, .int .i64 0, .int .i64 0, .string ⟨#[]⟩, .bool false] 38) (h1 := fun Wx => by go_simp) (h2 := fun qb1412 => ?_) (hs := nilS)
          simp only [Act.put, pa]; try dsimp only [List.set]
          try simp only [List.set_cons_zero, List.set_cons_succ]
          refine readyS [10] ?_
          refine detS undef [boxW qa1410 4 5 ⟨#[]⟩, boxE qb1412, heapR h (HX [rowO 1 (by decide) P, rowO 1 (by decide) R, rowO 2 (by decide) R, rowO 1 (by decide) (P ++ R), rowO 1 (by decide) (repl m.toNat P)])] (h1 := fun Wx hSw => by (have hz := hSw.box (b := qa1410) (o := objZ) 0 rfl; refine useZ3 hz fun z0 z1 z2 y0 y1 y2 => ?_; go_simp; exact ⟨rfl, hSw.set3 0 rfl (.int .i64 4) (.int .i64 5) (.string ⟨#[]⟩)⟩)) (h2 := ?_) (hs := nilS)
          simp only [Act.put, pa]; try dsimp only [List.set]
          refine readyS [11] ?_
          refine detS undef [boxW qa1410 4 5 ⟨#[]⟩, boxE qb1412, heapR h (HX [rowO 1 (by decide) P, rowO 1 (by decide) R, rowO 2 (by decide) R, rowO 1 (by decide) (P ++ R), rowO 1 (by decide) (repl m.toNat P)])] (h1 := fun Wx hSw => by (have hz := hSw.box (b := qb1412) (o := objE) 1 rfl; refine useZ5 hz fun z0 z1 z2 z3 z4 y0 y1 y2 y3 y4 => ?_; go_simp; exact ⟨rfl, hSw.set5 1 rfl (.string ⟨#[]⟩) (.int .i64 0) (.int .i64 0) (.string ⟨#[]⟩) (.bool false)⟩)) (h2 := ?_) (hs := nilS)
          simp only [Act.put, pa]; try dsimp only [List.set]
          refine doneS (h := fun w20 S => ?_)
          go_wp2_with fail
          as_aux_lemma => (go_meet; exact ⟨_, _, rfl, rfl, S⟩)
        refine allocS 1 rfl (fun q => .pointer (some ⟨q, 0, none⟩)) (.cells #[.string ⟨#[]⟩, .int .i64 0, .int .i64 0, .string ⟨#[]⟩, .bool false] 38) (h1 := fun Wx => by go_simp) (h2 := fun qb1415 => ?_) (hs := ?_)
        · simp only [Act.put, pa]; try dsimp only [List.set]
          try simp only [List.set_cons_zero, List.set_cons_succ]
          refine readyS [4] ?_
          refine detS (.tuple #[.agg #[.int .i64 4, .int .i64 5, .string ⟨#[]⟩], excZ]) [boxZ qa1410, boxE qb1415, heapR h (HX [rowO 1 (by decide) P, rowO 1 (by decide) R, rowO 2 (by decide) R, rowO 1 (by decide) (P ++ R), rowO 1 (by decide) (repl m.toNat P)])] (h1 := fun Wx hSw => by (go_simp; refine symCall ?_; exact bin_mul_row hSw 2 rfl (HG4.out.good (by simp)) (by decide) (vX 1 (by decide)) (vI m HMI.out) rfl rfl (show m.toNat * P.length ≤ 4096 from Nat.le_trans HML.out (by decide)))) (h2 := ?_) (hs := nilS)
          simp only [Act.put, pa]; try dsimp only [List.set]
          refine quietS 5 ?_
          simp only [Act.put, pa]; try dsimp only [List.set]
          refine quietS 6 ?_
          simp only [Act.put, pa]; try dsimp only [List.set]
          refine quietS 7 ?_
          simp only [Act.put, pa]; try dsimp only [List.set]
          refine readyS [10] ?_
          refine detS undef [boxW qa1410 4 5 ⟨#[]⟩, boxE qb1415, heapR h (HX [rowO 1 (by decide) P, rowO 1 (by decide) R, rowO 2 (by decide) R, rowO 1 (by decide) (P ++ R), rowO 1 (by decide) (repl m.toNat P)])] (h1 := fun Wx hSw => by (have hz := hSw.box (b := qa1410) (o := objZ) 0 rfl; refine useZ3 hz fun z0 z1 z2 y0 y1 y2 => ?_; go_simp; exact ⟨rfl, hSw.set3 0 rfl (.int .i64 4) (.int .i64 5) (.string ⟨#[]⟩)⟩)) (h2 := ?_) (hs := nilS)
          simp only [Act.put, pa]; try dsimp only [List.set]
          refine readyS [11] ?_
          refine detS undef [boxW qa1410 4 5 ⟨#[]⟩, boxE qb1415, heapR h (HX [rowO 1 (by decide) P, rowO 1 (by decide) R, rowO 2 (by decide) R, rowO 1 (by decide) (P ++ R), rowO 1 (by decide) (repl m.toNat P)])] (h1 := fun Wx hSw => by (have hz := hSw.box (b := qb1415) (o := objE) 1 rfl; refine useZ5 hz fun z0 z1 z2 z3 z4 y0 y1 y2 y3 y4 => ?_; go_simp; exact ⟨rfl, hSw.set5 1 rfl (.string ⟨#[]⟩) (.int .i64 0) (.int .i64 0) (.string ⟨#[]⟩) (.bool false)⟩)) (h2 := ?_) (hs := nilS)
          simp only [Act.put, pa]; try dsimp only [List.set]
          refine doneS (h := fun w20 S => ?_)
          go_wp2_with fail
          as_aux_lemma => (go_meet; exact ⟨_, _, rfl, rfl, S⟩)
        exact nilS
      refine allocS 1 rfl (fun q => .pointer (some ⟨q, 0, none⟩)) (.cells #[.string ⟨#[]⟩, .int .i64 0, .int .i64 0, .string ⟨#[]⟩, .bool false] 38) (h1 := fun Wx => by go_simp) (h2 := fun qb1419 => ?_) (hs := ?_)
      · simp only [Act.put, pa]; try dsimp only [List.set]
        try simp only [List.set_cons_zero, List.set_cons_succ]
        refine readyS [4, 8] ?_
        refine detS (.tuple #[.agg #[.int .i64 4, .int .i64 5, .string ⟨#[]⟩], excZ]) [emptyR, boxE qb1419, heapR h (HX [rowO 1 (by decide) P, rowO 1 (by decide) R, rowO 2 (by decide) R, rowO 1 (by decide) (P ++ R), rowO 1 (by decide) (repl m.toNat P)])] (h1 := fun Wx hSw => by (go_simp; refine symCall ?_; exact bin_mul_row hSw 2 rfl (HG4.out.good (by simp)) (by decide) (vX 1 (by decide)) (vI m HMI.out) rfl rfl (show m.toNat * P.length ≤ 4096 from Nat.le_trans HML.out (by decide)))) (h2 := ?_) (hs := ?_)
        · simp only [Act.put, pa]; try dsimp only [List.set]
          refine quietS 5 ?_
          simp only [Act.put, pa]; try dsimp only [List.set]
          refine quietS 6 ?_
          simp only [Act.put, pa]; try dsimp only [List.set]
          refine quietS 7 ?_
          simp only [Act.put, pa]; try dsimp only [List.set]
          refine readyS [8] ?_
          refine allocS 0 rfl (fun q => .pointer (some ⟨q, 0, none⟩)) (.cells #[.int .i64 0, .int .i64 0, .string ⟨#[]⟩] 29) (h1 := fun Wx => by go_simp) (h2 := fun qa1421 => ?_) (hs := nilS)
          simp only [Act.put, pa]; try dsimp only [List.set]
          try simp only [List.set_cons_zero, List.set_cons_succ]
          refine readyS [10] ?_
          refine detS undef [boxW qa1421 4 5 ⟨#[]⟩, boxE qb1419, heapR h (HX [rowO 1 (by decide) P, rowO 1 (by decide) R, rowO 2 (by decide) R, rowO 1 (by decide) (P ++ R), rowO 1 (by decide) (repl m.toNat P)])] (h1 := fun Wx hSw => by (have hz := hSw.box (b := qa1421) (o := objZ) 0 rfl; refine useZ3 hz fun z0 z1 z2 y0 y1 y2 => ?_; go_simp; exact ⟨rfl, hSw.set3 0 rfl (.int .i64 4) (.int .i64 5) (.string ⟨#[]⟩)⟩)) (h2 := ?_) (hs := nilS)
          simp only [Act.put, pa]; try dsimp only [List.set]
          refine readyS [11] ?_
          refine detS undef [boxW qa1421 4 5 ⟨#[]⟩, boxE qb1419, heapR h (HX [rowO 1 (by decide) P, rowO 1 (by decide) R, rowO 2 (by decide) R, rowO 1 (by decide) (P ++ R), rowO 1 (by decide) (repl m.toNat P)])] (h1 := fun Wx hSw => by (have hz := hSw.box (b := qb1419) (o := objE) 1 rfl; refine useZ5 hz fun z0 z1 z2 z3 z4 y0 y1 y2 y3 y4 => ?_; go_simp; exact ⟨rfl, hSw.set5 1 rfl (.string ⟨#[]⟩) (.int .i64 0) (.int .i64 0) (.string ⟨#[]⟩) (.bool false)⟩)) (h2 := ?_) (hs := nilS)
          simp only [Act.put, pa]; try dsimp only [List.set]
          refine doneS (h := fun w20 S => ?_)
          go_wp2_with fail
          as_aux_lemma => (go_meet; exact ⟨_, _, rfl, rfl, S⟩)
        refine allocS 0 rfl (fun q => .pointer (some ⟨q, 0, none⟩)) (.cells #[.int .i64 0, .int .i64 0, .string ⟨#[]⟩] 29) (h1 := fun Wx => by go_simp) (h2 := fun qa1424 => ?_) (hs := ?_)
        · simp only [Act.put, pa]; try dsimp only [List.set]
          try simp only [List.set_cons_zero, List.set_cons_succ]
          refine readyS [4] ?_
          refine detS (.tuple #[.agg #[.int .i64 4, .int .i64 5, .string ⟨#[]⟩], excZ]) [boxZ qa1424, boxE qb1419, heapR h (HX [rowO 1 (by decide) P, rowO 1 (by decide) R, rowO 2 (by decide) R, rowO 1 (by decide) (P ++ R), rowO 1 (by decide) (repl m.toNat P)])] (h1 := fun Wx hSw => by (go_simp; refine symCall ?_; exact bin_mul_row hSw 2 rfl (HG4.out.good (by simp)) (by decide) (vX 1 (by decide)) (vI m HMI.out) rfl rfl (show m.toNat * P.length ≤ 4096 from Nat.le_trans HML.out (by decide)))) (h2 := ?_) (hs := nilS)
          simp only [Act.put, pa]; try dsimp only [List.set]
          refine quietS 5 ?_
          simp only [Act.put, pa]; try dsimp only [List.set]
          refine quietS 6 ?_
          simp only [Act.put, pa]; try dsimp only [List.set]
          refine quietS 7 ?_
          simp only [Act.put, pa]; try dsimp only [List.set]
          refine readyS [10] ?_
          refine detS undef [boxW qa1424 4 5 ⟨#[]⟩, boxE qb1419, heapR h (HX [rowO 1 (by decide) P, rowO 1 (by decide) R, rowO 2 (by decide) R, rowO 1 (by decide) (P ++ R), rowO 1 (by decide) (repl m.toNat P)])] (h1 := fun Wx hSw => by (have hz := hSw.box (b := qa1424) (o := objZ) 0 rfl; refine useZ3 hz fun z0 z1 z2 y0 y1 y2 => ?_; go_simp; exact ⟨rfl, hSw.set3 0 rfl (.int .i64 4) (.int .i64 5) (.string ⟨#[]⟩)⟩)) (h2 := ?_) (hs := nilS)
          simp only [Act.put, pa]; try dsimp only [List.set]
          refine readyS [11] ?_
          refine detS undef [boxW qa1424 4 5 ⟨#[]⟩, boxE qb1419, heapR h (HX [rowO 1 (by decide) P, rowO 1 (by decide) R, rowO 2 (by decide) R, rowO 1 (by decide) (P ++ R), rowO 1 (by decide) (repl m.toNat P)])] (h1 := fun Wx hSw => by (have hz := hSw.box (b := qb1419) (o := objE) 1 rfl; refine useZ5 hz fun z0 z1 z2 z3 z4 y0 y1 y2 y3 y4 => ?_; go_simp; exact ⟨rfl, hSw.set5 1 rfl (.string ⟨#[]⟩) (.int .i64 0) (.int .i64 0) (.string ⟨#[]⟩) (.bool false)⟩)) (h2 := ?_) (hs := nilS)
          simp only [Act.put, pa]; try dsimp only [List.set]
          refine doneS (h := fun w20 S => ?_)
          go_wp2_with fail
          as_aux_lemma => (go_meet; exact ⟨_, _, rfl, rfl, S⟩)
        exact nilS
      exact nilS
    case rest =>
      obtain ⟨qq0_14, qq1_14, rfl, rfl, S⟩ := hcut
      replace S : Sep w (boxW qq0_14 4 5 ⟨#[]⟩ :: boxE qq1_14 :: heapR h (HX [rowO 1 (by decide) P, rowO 1 (by decide) R, rowO 2 (by decide) R, rowO 1 (by decide) (P ++ R), rowO 1 (by decide) (repl m.toNat P)]) :: boxW qX2 4 1 ⟨#[]⟩ :: boxW qY2 4 2 ⟨#[]⟩ :: boxW qa82 4 4 ⟨#[]⟩ :: []) wc := by rw [Hb14_18.out] at S; exact S
      clear Hb14_18 Kb14_18 K14_3 Cb14_18_0
      have HG6 : Hid (HXG [rowO 1 (by decide) P, rowO 1 (by decide) R, rowO 2 (by decide) R, rowO 1 (by decide) (P ++ R), rowO 1 (by decide) (repl m.toNat P), rowO 1 (by decide) (repl m.toNat P)]) := Lib.hid (HG5.out.snoc (by rw [repl_len]; exact HML.out))
      replace S : Sep w (heapR h (HX [rowO 1 (by decide) P, rowO 1 (by decide) R, rowO 2 (by decide) R, rowO 1 (by decide) (P ++ R), rowO 1 (by decide) (repl m.toNat P)]) :: boxW qq0_14 4 5 ⟨#[]⟩ :: boxE qq1_14 :: boxW qX2 4 1 ⟨#[]⟩ :: boxW qY2 4 2 ⟨#[]⟩ :: boxW qa82 4 4 ⟨#[]⟩ :: []) (wc) := by
        refine (show Sep w ([boxW qq0_14 4 5 ⟨#[]⟩, boxE qq1_14, heapR h (HX [rowO 1 (by decide) P, rowO 1 (by decide) R, rowO 2 (by decide) R, rowO 1 (by decide) (P ++ R), rowO 1 (by decide) (repl m.toNat P)]), boxW qX2 4 1 ⟨#[]⟩, boxW qY2 4 2 ⟨#[]⟩, boxW qa82 4 4 ⟨#[]⟩] ++ []) _ from S).perm ?_
        exact List.Perm.append_right [] (perm_of (l := [boxW qq0_14 4 5 ⟨#[]⟩, boxE qq1_14, heapR h (HX [rowO 1 (by decide) P, rowO 1 (by decide) R, rowO 2 (by decide) R, rowO 1 (by decide) (P ++ R), rowO 1 (by decide) (repl m.toNat P)]), boxW qX2 4 1 ⟨#[]⟩, boxW qY2 4 2 ⟨#[]⟩, boxW qa82 4 4 ⟨#[]⟩]) [2, 0, 1, 3, 4, 5] (by show (List.range' 0 6).Perm [2, 0, 1, 3, 4, 5]; decide) (by rfl))
      refine named (boxW qq0_14 4 5 ⟨#[]⟩ :: boxE qq1_14 :: boxW qX2 4 1 ⟨#[]⟩ :: boxW qY2 4 2 ⟨#[]⟩ :: boxW qa82 4 4 ⟨#[]⟩ :: [] : List Res) fun b15_20 hb15_20 => ?_
      have Hb15_20 := Lib.hid hb15_20
      have Kb15_20 : Hid (∀ W (Q : List Res), Sep w (Q ++ b15_20) W → True) := Lib.hid fun W Q T => by
        rw [hb15_20] at T
        trivial
      have Cb15_20_0 : Hid (∀ W (Q : List Res), Sep w (Q ++ b15_20) W → W.cell? ⟨qX2, 0, none⟩ = some (.int .i64 4) ∧ W.cell? ⟨qX2, 1, none⟩ = some (.int .i64 1) ∧ W.cell? ⟨qX2, 2, none⟩ = some (.string ⟨#[]⟩)) := Lib.hid fun W Q T => by
        rw [hb15_20] at T
        have i0 := T.box (b := qX2) (o := objW 4 1 ⟨#[]⟩) (Q.length + 2) (by rw [List.getElem?_append_right (by omega), Nat.add_sub_cancel_left]; rfl)
        exact ⟨cellAt i0 0 rfl, cellAt i0 1 rfl, cellAt i0 2 rfl⟩
      have K15_2 : Hid (∀ W (Q : List Res), Sep w (Q ++ b15_20) W → Calls Tryz.prog 16 #[.int .i64 m] W fun e W' => e = .returned (.agg #[.int .i64 2, .int .i64 m, .string ⟨#[]⟩]) ∧ Sep w (Q ++ b15_20) W') := Lib.hid fun W Q T => by
        exact (lnum_ok W m).mono fun e W' ⟨e1, e2⟩ => ⟨e1, T.later e2⟩
      replace S := Lib.hid S
      clear hb15_20
      go_upto_region 15 with fail
      go_cut [25, 26] (fun s25 s26 wx => ∃ qq0_15 qq1_15, s25 = .pointer (some ⟨qq0_15, 0, none⟩) ∧ s26 = .pointer (some ⟨qq1_15, 0, none⟩) ∧ Sep w ([boxW qq0_15 4 6 ⟨#[]⟩, boxE qq1_15, heapR h (HX [rowO 1 (by decide) P, rowO 1 (by decide) R, rowO 2 (by decide) R, rowO 1 (by decide) (P ++ R), rowO 1 (by decide) (repl m.toNat P), rowO 1 (by decide) (repl m.toNat P)])] ++ b15_20) wx)
      case first =>
        have S1 : Sep w ([heapR h (HX [rowO 1 (by decide) P, rowO 1 (by decide) R, rowO 2 (by decide) R, rowO 1 (by decide) (P ++ R), rowO 1 (by decide) (repl m.toNat P)])] ++ b15_20) (wc) := by rw [Hb15_20.out]; exact S.out
        clear S
        refine regionP 4 8 (E := [emptyR, emptyR, heapR h (HX [rowO 1 (by decide) P, rowO 1 (by decide) R, rowO 2 (by decide) R, rowO 1 (by decide) (P ++ R), rowO 1 (by decide) (repl m.toNat P)])]) (base := b15_20) (Sep.putE (Sep.putE S1)) ?_
        clear S1
        iterate 2 (refine quietP ?_; simp only [Act.put, pa]; try dsimp only [List.set])
        refine quietP (hy := fun E Wx hSw => by (go_simp; exact symCall (K15_2.out _ _ hSw))) (h := ?_)
        simp only [Act.put, pa]; try dsimp only [List.set]
        refine quietP (hy := fun E Wx hSw => by ((refine and3 (Cb15_20_0.out _ _ hSw) fun u0 u1 u2 => ?_); go_simp; exact ⟨rfl, hSw⟩)) (h := ?_)
        simp only [Act.put, pa]; try dsimp only [List.set]
        refine endP ?_
        refine readyS [4, 8, 9] ?_
        refine detS (.tuple #[.agg #[.int .i64 4, .int .i64 6, .string ⟨#[]⟩], excZ]) [emptyR, emptyR, heapR h (HX [rowO 1 (by decide) P, rowO 1 (by decide) R, rowO 2 (by decide) R, rowO 1 (by decide) (P ++ R), rowO 1 (by decide) (repl m.toNat P), rowO 1 (by decide) (repl m.toNat P)])] (h1 := fun Wx hSw => by (go_simp; refine symCall ?_; exact bin_mul_rows hSw 2 rfl (HG5.out.good (by simp)) (by decide) (vX 1 (by decide)) (vI m HMI.out) rfl rfl (show m.toNat * P.length ≤ 4096 from Nat.le_trans HML.out (by decide)))) (h2 := ?_) (hs := ?_)
        · simp only [Act.put, pa]; try dsimp only [List.set]
          refine quietS 5 ?_
          simp only [Act.put, pa]; try dsimp only [List.set]
          refine quietS 6 ?_
          simp only [Act.put, pa]; try dsimp only [List.set]
          refine quietS 7 ?_
          simp only [Act.put, pa]; try dsimp only [List.set]
          refine readyS [8, 9] ?_
          refine allocS 0 rfl (fun q => .pointer (some ⟨q, 0, none⟩)) (.cells #[.int .i64 0, .int .i64 0, .string ⟨#[]⟩] 29) (h1 := fun Wx => by go_simp) (h2 := fun qa152 => ?_) (hs := ?_)
          · simp only [Act.put, pa]; try dsimp only [List.set]
            try simp only [List.set_cons_zero, List.set_cons_succ]
            refine readyS [9] ?_
            refine allocS 1 rfl (fun q => .pointer (some ⟨q, 0, none⟩)) (.cells #[.string ⟨#[]⟩, .int .i64 0, .int .i64 0, .string ⟨#[]⟩, .bool false] 38) (h1 := fun Wx => by go_simp) (h2 := fun qb153 => ?_) (hs := nilS)
            simp only [Act.put, pa]; try dsimp only [List.set]
            try simp only [List.set_cons_zero, List.set_cons_succ]
            refine readyS [10] ?_
            refine detS undef [boxW qa152 4 6 ⟨#[]⟩, boxE qb153, heapR h (HX [rowO 1 (by decide) P, rowO 1 (by decide) R, rowO 2 (by decide) R, rowO 1 (by decide) (P ++ R), rowO 1 (by decide) (repl m.toNat P), rowO 1 (by decide) (repl m.toNat P)])] (h1 := fun Wx hSw => by (have hz := hSw.box (b := qa152) (o := objZ) 0 rfl; refine useZ3 hz fun z0 z1 z2 y0 y1 y2 => ?_; go_simp; exact ⟨rfl, hSw.set3 0 rfl (.int .i64 4) (.int .i64 6) (.string ⟨#[]⟩)⟩)) (h2 := ?_) (hs := nilS)
            simp only [Act.put, pa]; try dsimp only [List.set]
            refine readyS [11] ?_
            refine detS undef [boxW qa152 4 6 ⟨#[]⟩, boxE qb153, heapR h (HX [rowO 1 (by decide) P, rowO 1 (by decide) R, rowO 2 (by decide) R, rowO 1 (by decide) (P ++ R), rowO 1 (by decide) (repl m.toNat P), rowO 1 (by decide) (repl m.toNat P)])] (h1 := fun Wx hSw => by (have hz := hSw.box (b := qb153) (o := objE) 1 rfl; refine useZ5 hz fun z0 z1 z2 z3 z4 y0 y1 y2 y3 y4 => ?_; go_simp; exact ⟨rfl, hSw.set5 1 rfl (.string ⟨#[]⟩) (.int .i64 0) (.int .i64 0) (.string ⟨#[]⟩) (.bool false)⟩)) (h2 := ?_) (hs := nilS)
            simp only [Act.put, pa]; try dsimp only [List.set]
            refine doneS (h := fun w22 S => ?_)
            go_wp2_with fail
            as_aux_lemma => (go_meet; exact ⟨_, _, rfl, rfl, S⟩)
          refine allocS 1 rfl (fun q => .pointer (some ⟨q, 0, none⟩)) (.cells #[.string ⟨#[]⟩, .int .i64 0, .int .i64 0, .string ⟨#[]⟩, .bool false] 38) (h1 := fun Wx => by go_simp) (h2 := fun qb156 => ?_) (hs := ?_)
          · simp only [Act.put, pa]; try dsimp only [List.set]
            try simp only [List.set_cons_zero, List.set_cons_succ]
            refine readyS [8] ?_
            refine allocS 0 rfl (fun q => .pointer (some ⟨q, 0, none⟩)) (.cells #[.int .i64 0, .int .i64 0, .string ⟨#[]⟩] 29) (h1 := fun Wx => by go_simp) (h2 := fun qa157 => ?_) (hs := nilS)
            simp only [Act.put, pa]; try dsimp only [List.set]
            try simp only [List.set_cons_zero, List.set_cons_succ]
            refine readyS [10] ?_
            refine detS undef [boxW qa157 4 6 ⟨#[]⟩, boxE qb156, heapR h (HX [rowO 1 (by decide) P, rowO 1 (by decide) R, rowO 2 (by decide) R, rowO 1 (by decide) (P ++ R), rowO 1 (by decide) (repl m.toNat P), rowO 1 (by decide) (repl m.toNat P)])] (h1 := fun Wx hSw => by (have hz := hSw.box (b := qa157) (o := objZ) 0 rfl; refine useZ3 hz fun z0 z1 z2 y0 y1 y2 => ?_; go_simp; exact ⟨rfl, hSw.set3 0 rfl (.int .i64 4) (.int .i64 6) (.string ⟨#[]⟩)⟩)) (h2 := ?_) (hs := nilS)
            simp only [Act.put, pa]; try dsimp only [List.set]
            refine readyS [11] ?_
            refine detS undef [boxW qa157 4 6 ⟨#[]⟩, boxE qb156, heapR h (HX [rowO 1 (by decide) P, rowO 1 (by decide) R, rowO 2 (by decide) R, rowO 1 (by decide) (P ++ R), rowO 1 (by decide) (repl m.toNat P), rowO 1 (by decide) (repl m.toNat P)])] (h1 := fun Wx hSw => by (have hz := hSw.box (b := qb156) (o := objE) 1 rfl; refine useZ5 hz fun z0 z1 z2 z3 z4 y0 y1 y2 y3 y4 => ?_; go_simp; exact ⟨rfl, hSw.set5 1 rfl (.string ⟨#[]⟩) (.int .i64 0) (.int .i64 0) (.string ⟨#[]⟩) (.bool false)⟩)) (h2 := ?_) (hs := nilS)
            simp only [Act.put, pa]; try dsimp only [List.set]
            refine doneS (h := fun w22 S => ?_)
            go_wp2_with fail
            as_aux_lemma => (go_meet; exact ⟨_, _, rfl, rfl, S⟩)
          exact nilS
        refine allocS 0 rfl (fun q => .pointer (some ⟨q, 0, none⟩)) (.cells #[.int .i64 0, .int .i64 0, .string ⟨#[]⟩] 29) (h1 := fun Wx => by go_simp) (h2 := fun qa1510 => ?_) (hs := ?_)
        · simp only [Act.put, pa]; try dsimp only [List.set]
          try simp only [List.set_cons_zero, List.set_cons_succ]
          refine readyS [4, 9] ?_
          refine detS (.tuple #[.agg #[.int .i64 4, .int .i64 6, .string ⟨#[]⟩], excZ]) [boxZ qa1510, emptyR, heapR h (HX [rowO 1 (by decide) P, rowO 1 (by decide) R, rowO 2 (by decide) R, rowO 1 (by decide) (P ++ R), rowO 1 (by decide) (repl m.toNat P), rowO 1 (by decide) (repl m.toNat P)])] (h1 := fun Wx hSw => by (go_simp; refine symCall ?_; exact bin_mul_rows hSw 2 rfl (HG5.out.good (by simp)) (by decide) (vX 1 (by decide)) (vI m HMI.out) rfl rfl (show m.toNat * P.length ≤ 4096 from Nat.le_trans HML.out (by decide)))) (h2 := ?_) (hs := ?_)
          · simp only [Act.put, pa]; try dsimp only [List.set]
            refine quietS 5 ?_
            simp only [Act.put, pa]; try dsimp only [List.set]
            refine quietS 6 ?_
            simp only [Act.put, pa]; try dsimp only [List.set]
            refine quietS 7 ?_
            simp only [Act.put, pa]; try dsimp only [List.set]
            refine readyS [9] ?_
            refine allocS 1 rfl (fun q => .pointer (some ⟨q, 0, none⟩)) (.cells #[.string ⟨#[]⟩, .int .i64 0, .int .i64 0, .string ⟨#[]⟩, .bool false] 38) (h1 := fun Wx => by go_simp) (h2 := fun qb1512 => ?_) (hs := nilS)
            simp only [Act.put, pa]; try dsimp only [List.set]
            try simp only [List.set_cons_zero, List.set_cons_succ]
            refine readyS [10] ?_
            refine detS undef [boxW qa1510 4 6 ⟨#[]⟩, boxE qb1512, heapR h (HX [rowO 1 (by decide) P, rowO 1 (by decide) R, rowO 2 (by decide) R, rowO 1 (by decide) (P ++ R), rowO 1 (by decide) (repl m.toNat P), rowO 1 (by decide) (repl m.toNat P)])] (h1 := fun Wx hSw => by (have hz := hSw.box (b := qa1510) (o := objZ) 0 rfl; refine useZ3 hz fun z0 z1 z2 y0 y1 y2 => ?_; go_simp; exact ⟨rfl, hSw.set3 0 rfl (.int .i64 4) (.int .i64 6) (.string ⟨#[]⟩)⟩)) (h2 := ?_) (hs := nilS)
            simp only [Act.put, pa]; try dsimp only [List.set]
            refine readyS [11] ?_
            refine detS undef [boxW qa1510 4 6 ⟨#[]⟩, boxE qb1512, heapR h (HX [rowO 1 (by decide) P, rowO 1 (by decide) R, rowO 2 (by decide) R, rowO 1 (by decide) (P ++ R), rowO 1 (by decide) (repl m.toNat P), rowO 1 (by decide) (repl m.toNat P)])] (h1 := fun Wx hSw => by (have hz := hSw.box (b := qb1512) (o := objE) 1 rfl; refine useZ5 hz fun z0 z1 z2 z3 z4 y0 y1 y2 y3 y4 => ?_; go_simp; exact ⟨rfl, hSw.set5 1 rfl (.string ⟨#[]⟩) (.int .i64 0) (.int .i64 0) (.string ⟨#[]⟩) (.bool false)⟩)) (h2 := ?_) (hs := nilS)
            simp only [Act.put, pa]; try dsimp only [List.set]
            refine doneS (h := fun w22 S => ?_)
            go_wp2_with fail
            as_aux_lemma => (go_meet; exact ⟨_, _, rfl, rfl, S⟩)
          refine allocS 1 rfl (fun q => .pointer (some ⟨q, 0, none⟩)) (.cells #[.string ⟨#[]⟩, .int .i64 0, .int .i64 0, .string ⟨#[]⟩, .bool false] 38) (h1 := fun Wx => by go_simp) (h2 := fun qb1515 => ?_) (hs := ?_)
          · simp only [Act.put, pa]; try dsimp only [List.set]
            try simp only [List.set_cons_zero, List.set_cons_succ]
            refine readyS [4] ?_
            refine detS (.tuple #[.agg #[.int .i64 4, .int .i64 6, .string ⟨#[]⟩], excZ]) [boxZ qa1510, boxE qb1515, heapR h (HX [rowO 1 (by decide) P, rowO 1 (by decide) R, rowO 2 (by decide) R, rowO 1 (by decide) (P ++ R), rowO 1 (by decide) (repl m.toNat P), rowO 1 (by decide) (repl m.toNat P)])] (h1 := fun Wx hSw => by (go_simp; refine symCall ?_; exact bin_mul_rows hSw 2 rfl (HG5.out.good (by simp)) (by decide) (vX 1 (by decide)) (vI m HMI.out) rfl rfl (show m.toNat * P.length ≤ 4096 from Nat.le_trans HML.out (by decide)))) (h2 := ?_) (hs := nilS)
            simp only [Act.put, pa]; try dsimp only [List.set]
            refine quietS 5 ?_
            simp only [Act.put, pa]; try dsimp only [List.set]
            refine quietS 6 ?_
            simp only [Act.put, pa]; try dsimp only [List.set]
            refine quietS 7 ?_
            simp only [Act.put, pa]; try dsimp only [List.set]
            refine readyS [10] ?_
            refine detS undef [boxW qa1510 4 6 ⟨#[]⟩, boxE qb1515, heapR h (HX [rowO 1 (by decide) P, rowO 1 (by decide) R, rowO 2 (by decide) R, rowO 1 (by decide) (P ++ R), rowO 1 (by decide) (repl m.toNat P), rowO 1 (by decide) (repl m.toNat P)])] (h1 := fun Wx hSw => by (have hz := hSw.box (b := qa1510) (o := objZ) 0 rfl; refine useZ3 hz fun z0 z1 z2 y0 y1 y2 => ?_; go_simp; exact ⟨rfl, hSw.set3 0 rfl (.int .i64 4) (.int .i64 6) (.string ⟨#[]⟩)⟩)) (h2 := ?_) (hs := nilS)
            simp only [Act.put, pa]; try dsimp only [List.set]
            refine readyS [11] ?_
            refine detS undef [boxW qa1510 4 6 ⟨#[]⟩, boxE qb1515, heapR h (HX [rowO 1 (by decide) P, rowO 1 (by decide) R, rowO 2 (by decide) R, rowO 1 (by decide) (P ++ R), rowO 1 (by decide) (repl m.toNat P), rowO 1 (by decide) (repl m.toNat P)])] (h1 := fun Wx hSw => by (have hz := hSw.box (b := qb1515) (o := objE) 1 rfl; refine useZ5 hz fun z0 z1 z2 z3 z4 y0 y1 y2 y3 y4 => ?_; go_simp; exact ⟨rfl, hSw.set5 1 rfl (.string ⟨#[]⟩) (.int .i64 0) (.int .i64 0) (.string ⟨#[]⟩) (.bool false)⟩)) (h2 := ?_) (hs := nilS)
            simp only [Act.put, pa]; try dsimp only [List.set]
            refine doneS (h := fun w22 S => ?_)
            go_wp2_with fail
            as_aux_lemma => (go_meet; exact ⟨_, _, rfl, rfl, S⟩)
          exact nilS
        refine allocS 1 rfl (fun q => .pointer (some ⟨q, 0, none⟩)) (.cells #[.string ⟨#[]⟩, .int .i64 0, .int .i64 0, .string ⟨#[]⟩, .bool false] 38) (h1 := fun Wx => by go_simp) (h2 := fun qb1519 => ?_) (hs := ?_)
        · simp only [Act.put, pa]; try dsimp only [List.set]
          try simp only [List.set_cons_zero, List.set_cons_succ]
          refine readyS [4, 8] ?_
          refine detS (.tuple #[.agg #[.int .i64 4, .int .i64 6, .string ⟨#[]⟩], excZ]) [emptyR, boxE qb1519, heapR h (HX [rowO 1 (by decide) P, rowO 1 (by decide) R, rowO 2 (by decide) R, rowO 1 (by decide) (P ++ R), rowO 1 (by decide) (repl m.toNat P), rowO 1 (by decide) (repl m.toNat P)])] (h1 := fun Wx hSw => by (go_simp; refine symCall ?_; exact bin_mul_rows hSw 2 rfl (HG5.out.good (by simp)) (by decide) (vX 1 (by decide)) (vI m HMI.out) rfl rfl (show m.toNat * P.length ≤ 4096 from Nat.le_trans HML.out (by decide)))) (h2 := ?_) (hs := ?_)
          · simp only [Act.put, pa]; try dsimp only [List.set]
            refine quietS 5 ?_
            simp only [Act.put, pa]; try dsimp only [List.set]
            refine quietS 6 ?_
            simp only [Act.put, pa]; try dsimp only [List.set]
            refine quietS 7 ?_
            simp only [Act.put, pa]; try dsimp only [List.set]
            refine readyS [8] ?_
            refine allocS 0 rfl (fun q => .pointer (some ⟨q, 0, none⟩)) (.cells #[.int .i64 0, .int .i64 0, .string ⟨#[]⟩] 29) (h1 := fun Wx => by go_simp) (h2 := fun qa1521 => ?_) (hs := nilS)
            simp only [Act.put, pa]; try dsimp only [List.set]
            try simp only [List.set_cons_zero, List.set_cons_succ]
            refine readyS [10] ?_
            refine detS undef [boxW qa1521 4 6 ⟨#[]⟩, boxE qb1519, heapR h (HX [rowO 1 (by decide) P, rowO 1 (by decide) R, rowO 2 (by decide) R, rowO 1 (by decide) (P ++ R), rowO 1 (by decide) (repl m.toNat P), rowO 1 (by decide) (repl m.toNat P)])] (h1 := fun Wx hSw => by (have hz := hSw.box (b := qa1521) (o := objZ) 0 rfl; refine useZ3 hz fun z0 z1 z2 y0 y1 y2 => ?_; go_simp; exact ⟨rfl, hSw.set3 0 rfl (.int .i64 4) (.int .i64 6) (.string ⟨#[]⟩)⟩)) (h2 := ?_) (hs := nilS)
            simp only [Act.put, pa]; try dsimp only [List.set]
            refine readyS [11] ?_
            refine detS undef [boxW qa1521 4 6 ⟨#[]⟩, boxE qb1519, heapR h (HX [rowO 1 (by decide) P, rowO 1 (by decide) R, rowO 2 (by decide) R, rowO 1 (by decide) (P ++ R), rowO 1 (by decide) (repl m.toNat P), rowO 1 (by decide) (repl m.toNat P)])] (h1 := fun Wx hSw => by (have hz := hSw.box (b := qb1519) (o := objE) 1 rfl; refine useZ5 hz fun z0 z1 z2 z3 z4 y0 y1 y2 y3 y4 => ?_; go_simp; exact ⟨rfl, hSw.set5 1 rfl (.string ⟨#[]⟩) (.int .i64 0) (.int .i64 0) (.string ⟨#[]⟩) (.bool false)⟩)) (h2 := ?_) (hs := nilS)
            simp only [Act.put, pa]; try dsimp only [List.set]
            refine doneS (h := fun w22 S => ?_)
            go_wp2_with fail
            as_aux_lemma => (go_meet; exact ⟨_, _, rfl, rfl, S⟩)
          refine allocS 0 rfl (fun q => .pointer (some ⟨q, 0, none⟩)) (.cells #[.int .i64 0, .int .i64 0, .string ⟨#[]⟩] 29) (h1 := fun Wx => by go_simp) (h2 := fun qa1524 => ?_) (hs := ?_)
          · simp only [Act.put, pa]; try dsimp only [List.set]
            try simp only [List.set_cons_zero, List.set_cons_succ]
            refine readyS [4] ?_
            refine detS (.tuple #[.agg #[.int .i64 4, .int .i64 6, .string ⟨#[]⟩], excZ]) [boxZ qa1524, boxE qb1519, heapR h (HX [rowO 1 (by decide) P, rowO 1 (by decide) R, rowO 2 (by decide) R, rowO 1 (by decide) (P ++ R), rowO 1 (by decide) (repl m.toNat P), rowO 1 (by decide) (repl m.toNat P)])] (h1 := fun Wx hSw => by (go_simp; refine symCall ?_; exact bin_mul_rows hSw 2 rfl (HG5.out.good (by simp)) (by decide) (vX 1 (by decide)) (vI m HMI.out) rfl rfl (show m.toNat * P.length ≤ 4096 from Nat.le_trans HML.out (by decide)))) (h2 := ?_) (hs := nilS)
            simp only [Act.put, pa]; try dsimp only [List.set]
            refine quietS 5 ?_
            simp only [Act.put, pa]; try dsimp only [List.set]
            refine quietS 6 ?_
            simp only [Act.put, pa]; try dsimp only [List.set]
            refine quietS 7 ?_
            simp only [Act.put, pa]; try dsimp only [List.set]
            refine readyS [10] ?_
            refine detS undef [boxW qa1524 4 6 ⟨#[]⟩, boxE qb1519, heapR h (HX [rowO 1 (by decide) P, rowO 1 (by decide) R, rowO 2 (by decide) R, rowO 1 (by decide) (P ++ R), rowO 1 (by decide) (repl m.toNat P), rowO 1 (by decide) (repl m.toNat P)])] (h1 := fun Wx hSw => by (have hz := hSw.box (b := qa1524) (o := objZ) 0 rfl; refine useZ3 hz fun z0 z1 z2 y0 y1 y2 => ?_; go_simp; exact ⟨rfl, hSw.set3 0 rfl (.int .i64 4) (.int .i64 6) (.string ⟨#[]⟩)⟩)) (h2 := ?_) (hs := nilS)
            simp only [Act.put, pa]; try dsimp only [List.set]
            refine readyS [11] ?_
            refine detS undef [boxW qa1524 4 6 ⟨#[]⟩, boxE qb1519, heapR h (HX [rowO 1 (by decide) P, rowO 1 (by decide) R, rowO 2 (by decide) R, rowO 1 (by decide) (P ++ R), rowO 1 (by decide) (repl m.toNat P), rowO 1 (by decide) (repl m.toNat P)])] (h1 := fun Wx hSw => by (have hz := hSw.box (b := qb1519) (o := objE) 1 rfl; refine useZ5 hz fun z0 z1 z2 z3 z4 y0 y1 y2 y3 y4 => ?_; go_simp; exact ⟨rfl, hSw.set5 1 rfl (.string ⟨#[]⟩) (.int .i64 0) (.int .i64 0) (.string ⟨#[]⟩) (.bool false)⟩)) (h2 := ?_) (hs := nilS)
            simp only [Act.put, pa]; try dsimp only [List.set]
            refine doneS (h := fun w22 S => ?_)
            go_wp2_with fail
            as_aux_lemma => (go_meet; exact ⟨_, _, rfl, rfl, S⟩)
          exact nilS
        exact nilS
      case rest =>
        obtain ⟨qq0_15, qq1_15, rfl, rfl, S⟩ := hcut
        replace S : Sep w (boxW qq0_15 4 6 ⟨#[]⟩ :: boxE qq1_15 :: heapR h (HX [rowO 1 (by decide) P, rowO 1 (by decide) R, rowO 2 (by decide) R, rowO 1 (by decide) (P ++ R), rowO 1 (by decide) (repl m.toNat P), rowO 1 (by decide) (repl m.toNat P)]) :: boxW qq0_14 4 5 ⟨#[]⟩ :: boxE qq1_14 :: boxW qX2 4 1 ⟨#[]⟩ :: boxW qY2 4 2 ⟨#[]⟩ :: boxW qa82 4 4 ⟨#[]⟩ :: []) wc := by rw [Hb15_20.out] at S; exact S
        clear Hb15_20 Kb15_20 K15_2 Cb15_20_0
        refine named (boxW qq0_15 4 6 ⟨#[]⟩ :: boxE qq1_15 :: heapR h (HX [rowO 1 (by decide) P, rowO 1 (by decide) R, rowO 2 (by decide) R, rowO 1 (by decide) (P ++ R), rowO 1 (by decide) (repl m.toNat P), rowO 1 (by decide) (repl m.toNat P)]) :: boxW qq0_14 4 5 ⟨#[]⟩ :: boxE qq1_14 :: boxW qX2 4 1 ⟨#[]⟩ :: boxW qY2 4 2 ⟨#[]⟩ :: boxW qa82 4 4 ⟨#[]⟩ :: [] : List Res) fun b16_22 hb16_22 => ?_
        have Hb16_22 := Lib.hid hb16_22
        have Kb16_22 : Hid (∀ W (Q : List Res), Sep w (Q ++ b16_22) W → True) := Lib.hid fun W Q T => by
          rw [hb16_22] at T
          trivial
        replace S := Lib.hid S
        clear hb16_22
        go_upto_region 16 with fail
        have S1 : Sep w ([] ++ b16_22) (wc) := by rw [Hb16_22.out]; exact S.out
        clear S
        refine regionL (E := [emptyR]) (base := b16_22) (Sep.putE S1) ?_
        clear S1
        refine stepL (fun v E1 => ∃ (q_24_1 : Nat), v = .slice (some ⟨q_24_1, 0, none⟩) 0 0 ∧ E1 = [valsR (.slice (some ⟨q_24_1, 0, none⟩) 0 0) []]) (h1 := fun Wx hSw => by (go_simp; exact ⟨_, ⟨_, rfl, rfl⟩, (hSw.madeRow V.cells 3 29).into 0 rfl⟩)) (h2 := fun v E1 hvE => ?_)
        obtain ⟨q_24_1, rfl, rfl⟩ := hvE
        simp only [Act.put, pa]; try dsimp only [List.set]
        refine quietL ?_
        simp only [Act.put, pa]; try dsimp only [List.set]
        intro w24 S
        replace S : Sep w (valsR (.slice (some ⟨q_24_1, 0, none⟩) 0 0) [] :: boxW qq0_15 4 6 ⟨#[]⟩ :: boxE qq1_15 :: heapR h (HX [rowO 1 (by decide) P, rowO 1 (by decide) R, rowO 2 (by decide) R, rowO 1 (by decide) (P ++ R), rowO 1 (by decide) (repl m.toNat P), rowO 1 (by decide) (repl m.toNat P)]) :: boxW qq0_14 4 5 ⟨#[]⟩ :: boxE qq1_14 :: boxW qX2 4 1 ⟨#[]⟩ :: boxW qY2 4 2 ⟨#[]⟩ :: boxW qa82 4 4 ⟨#[]⟩ :: []) w24 := by rw [Hb16_22.out] at S; exact S
        clear Hb16_22 Kb16_22
        replace S := Lib.hid S
        go_wp2
        go_loopw [27, 28] (fun s27 s28 wr => ∃ (c L : Nat) (a : Option Addr) (cp : Nat), Hid (c ≤ m.toNat ∧ (repl c P).length = L) ∧ s27 = .slice a L cp ∧ s28 = .int .i64 c ∧ Sep w ([valsR (.slice a L cp) (repl c P), boxW qq0_15 4 6 ⟨#[]⟩, boxE qq1_15, heapR h (HX [rowO 1 (by decide) P, rowO 1 (by decide) R, rowO 2 (by decide) R, rowO 1 (by decide) (P ++ R), rowO 1 (by decide) (repl m.toNat P), rowO 1 (by decide) (repl m.toNat P)]), boxW qq0_14 4 5 ⟨#[]⟩, boxE qq1_14, boxW qX2 4 1 ⟨#[]⟩, boxW qY2 4 2 ⟨#[]⟩, boxW qa82 4 4 ⟨#[]⟩] ++ []) wr) (fun _ s28 _ => m.toNat - (intOf s28).toNat)
        case atStart => exact ⟨0, 0, _, _, Lib.hid ⟨Nat.zero_le _, rfl⟩, rfl, rfl, S.out⟩
        case round =>
          obtain ⟨c, L, a, cp, HI, rfl, rfl, S⟩ := hrel
          replace S : Sep w (valsR (.slice a L cp) (repl c P) :: boxW qq0_15 4 6 ⟨#[]⟩ :: boxE qq1_15 :: heapR h (HX [rowO 1 (by decide) P, rowO 1 (by decide) R, rowO 2 (by decide) R, rowO 1 (by decide) (P ++ R), rowO 1 (by decide) (repl m.toNat P), rowO 1 (by decide) (repl m.toNat P)]) :: boxW qq0_14 4 5 ⟨#[]⟩ :: boxE qq1_14 :: boxW qX2 4 1 ⟨#[]⟩ :: boxW qY2 4 2 ⟨#[]⟩ :: boxW qa82 4 4 ⟨#[]⟩ :: []) wr := S
          by_cases hlt : (c : Int) < m
          ·
            obtain ⟨L2, hL2⟩ : ∃ L2, L + P.length = L2 := ⟨_, rfl⟩
            have HL2 := Lib.hid hL2
            have HLT := Lib.hid hlt
            have HLB := Lib.hid (show L2 ≤ 9000000 from by
              have h1 : c ≤ 5 := by have := HM1.out; omega
              have h2 : c * P.length ≤ 40 := Nat.le_trans (Nat.mul_le_mul h1 H8P.out) (by decide)
              rw [← HI.out.2, repl_len] at hL2; have := H8P.out; omega)
            clear hL2
            replace S : Sep w (valsR (.slice a L cp) (repl c P) :: boxW qq0_15 4 6 ⟨#[]⟩ :: boxE qq1_15 :: heapR h (HX [rowO 1 (by decide) P, rowO 1 (by decide) R, rowO 2 (by decide) R, rowO 1 (by decide) (P ++ R), rowO 1 (by decide) (repl m.toNat P), rowO 1 (by decide) (repl m.toNat P)]) :: boxW qq0_14 4 5 ⟨#[]⟩ :: boxE qq1_14 :: boxW qX2 4 1 ⟨#[]⟩ :: boxW qY2 4 2 ⟨#[]⟩ :: boxW qa82 4 4 ⟨#[]⟩ :: []) (wr) := by
              refine (show Sep w ([valsR (.slice a L cp) (repl c P), boxW qq0_15 4 6 ⟨#[]⟩, boxE qq1_15, heapR h (HX [rowO 1 (by decide) P, rowO 1 (by decide) R, rowO 2 (by decide) R, rowO 1 (by decide) (P ++ R), rowO 1 (by decide) (repl m.toNat P), rowO 1 (by decide) (repl m.toNat P)]), boxW qq0_14 4 5 ⟨#[]⟩, boxE qq1_14, boxW qX2 4 1 ⟨#[]⟩, boxW qY2 4 2 ⟨#[]⟩, boxW qa82 4 4 ⟨#[]⟩] ++ []) _ from S).perm ?_
              exact List.Perm.append_right [] (perm_of (l := [valsR (.slice a L cp) (repl c P), boxW qq0_15 4 6 ⟨#[]⟩, boxE qq1_15, heapR h (HX [rowO 1 (by decide) P, rowO 1 (by decide) R, rowO 2 (by decide) R, rowO 1 (by decide) (P ++ R), rowO 1 (by decide) (repl m.toNat P), rowO 1 (by decide) (repl m.toNat P)]), boxW qq0_14 4 5 ⟨#[]⟩, boxE qq1_14, boxW qX2 4 1 ⟨#[]⟩, boxW qY2 4 2 ⟨#[]⟩, boxW qa82 4 4 ⟨#[]⟩]) [0, 1, 2, 3, 4, 5, 6, 7, 8] (by show (List.range' 0 9).Perm [0, 1, 2, 3, 4, 5, 6, 7, 8]; decide) (by rfl))
            refine named (boxW qq0_15 4 6 ⟨#[]⟩ :: boxE qq1_15 :: heapR h (HX [rowO 1 (by decide) P, rowO 1 (by decide) R, rowO 2 (by decide) R, rowO 1 (by decide) (P ++ R), rowO 1 (by decide) (repl m.toNat P), rowO 1 (by decide) (repl m.toNat P)]) :: boxW qq0_14 4 5 ⟨#[]⟩ :: boxE qq1_14 :: boxW qX2 4 1 ⟨#[]⟩ :: boxW qY2 4 2 ⟨#[]⟩ :: boxW qa82 4 4 ⟨#[]⟩ :: [] : List Res) fun b20_50 hb20_50 => ?_
            have Hb20_50 := Lib.hid hb20_50
            have Kb20_50 : Hid (∀ W (Q : List Res), Sep w (Q ++ b20_50) W → True) := Lib.hid fun W Q T => by
              rw [hb20_50] at T
              trivial
            have Cb20_50_0 : Hid (∀ W (Q : List Res), Sep w (Q ++ b20_50) W → W.cell? ⟨qX2, 0, none⟩ = some (.int .i64 4) ∧ W.cell? ⟨qX2, 1, none⟩ = some (.int .i64 1) ∧ W.cell? ⟨qX2, 2, none⟩ = some (.string ⟨#[]⟩)) := Lib.hid fun W Q T => by
              rw [hb20_50] at T
              have i0 := T.box (b := qX2) (o := objW 4 1 ⟨#[]⟩) (Q.length + 5) (by rw [List.getElem?_append_right (by omega), Nat.add_sub_cancel_left]; rfl)
              exact ⟨cellAt i0 0 rfl, cellAt i0 1 rfl, cellAt i0 2 rfl⟩
            have KI20_3 : Hid (∀ W (Q : List Res), Sep w (Q ++ b20_50) W → Calls Tryz.prog 31 #[.pointer (some ⟨h, 0, none⟩), .agg #[.int .i64 4, .int .i64 1, .string ⟨#[]⟩]] W fun e W' => ∃ a c, e = .returned (.slice a P.length c) ∧ Sep w (valsR (.slice a P.length c) P :: (Q ++ b20_50)) W') := Lib.hid fun W Q T => by
              rw [Hb20_50.out] at T ⊢
              exact items_at T (Q.length + 2) (by rw [List.getElem?_append_right (by omega), Nat.add_sub_cancel_left]; rfl) (HG6.out.good (by simp)) (by decide) (vX 1 (by decide)) P rfl
            replace S := Lib.hid S
            clear hb20_50
            go_upto_region 20 with fail
            have S1 : Sep w ([valsR (.slice a L cp) (repl c P)] ++ b20_50) (wr) := by rw [Hb20_50.out]; exact S.out
            clear S
            refine regionL (E := [emptyR, valsR (.slice a L cp) (repl c P)]) (base := b20_50) (Sep.putE S1) ?_
            clear S1
            iterate 2 (refine quietL ?_; simp only [Act.put, pa]; try dsimp only [List.set])
            refine quietL (hy := fun E Wx hSw => by ((refine and3 (Cb20_50_0.out _ _ hSw) fun u0 u1 u2 => ?_); go_simp; exact ⟨rfl, hSw⟩)) (h := ?_)
            simp only [Act.put, pa]; try dsimp only [List.set]
            refine stepL (fun v E1 => ∃ (va_52_1 : Option Addr) (vc_52_1 : Nat), v = .slice va_52_1 P.length vc_52_1 ∧ E1 = [valsR (.slice va_52_1 P.length vc_52_1) P, valsR (.slice a L cp) (repl c P)]) (h1 := fun Wx hSw => by (go_simp; refine symCallN ?_; exact (KI20_3.out _ _ hSw).mono fun e W' ⟨a, c, e1, e2⟩ => ⟨_, _, e1, ⟨a, c, rfl, rfl⟩, e2.into 0 rfl⟩)) (h2 := fun v E1 hvE => ?_)
            obtain ⟨va_52_1, vc_52_1, rfl, rfl⟩ := hvE
            simp only [Act.put, pa]; try dsimp only [List.set]
            refine stepL (fun v E1 => ∃ (va_52_2 : Option Addr) (vc_52_2 : Nat), v = .slice va_52_2 L2 vc_52_2 ∧ E1 = [valsR (.slice va_52_1 P.length vc_52_1) P, valsR (.slice va_52_2 L2 vc_52_2) (repl c P ++ P)]) (h1 := fun Wx hSw => by (obtain ⟨va, vc, w2, hr, S2⟩ := hSw.appendV 1 rfl HI.out.2 (hSw.seesV 0 rfl) L2 HL2.out HLB.out; exact symAppend _ _ _ _ rfl _ _ rfl rfl hr ⟨_, ⟨va, vc, rfl, rfl⟩, S2⟩)) (h2 := fun v E1 hvE => ?_)
            obtain ⟨va_52_2, vc_52_2, rfl, rfl⟩ := hvE
            simp only [Act.put, pa]; try dsimp only [List.set]
            refine quietL ?_
            simp only [Act.put, pa]; try dsimp only [List.set]
            intro w52 S
            replace S : Sep w (valsR (.slice va_52_1 P.length vc_52_1) P :: valsR (.slice va_52_2 L2 vc_52_2) (repl c P ++ P) :: boxW qq0_15 4 6 ⟨#[]⟩ :: boxE qq1_15 :: heapR h (HX [rowO 1 (by decide) P, rowO 1 (by decide) R, rowO 2 (by decide) R, rowO 1 (by decide) (P ++ R), rowO 1 (by decide) (repl m.toNat P), rowO 1 (by decide) (repl m.toNat P)]) :: boxW qq0_14 4 5 ⟨#[]⟩ :: boxE qq1_14 :: boxW qX2 4 1 ⟨#[]⟩ :: boxW qY2 4 2 ⟨#[]⟩ :: boxW qa82 4 4 ⟨#[]⟩ :: []) w52 := by rw [Hb20_50.out] at S; exact S
            clear Hb20_50 Kb20_50 KI20_3 Cb20_50_0
            replace S : Sep w ([valsR (.slice va_52_1 P.length vc_52_1) P, valsR (.slice va_52_2 L2 vc_52_2) (repl c P ++ P), boxW qq0_15 4 6 ⟨#[]⟩, boxE qq1_15, heapR h (HX [rowO 1 (by decide) P, rowO 1 (by decide) R, rowO 2 (by decide) R, rowO 1 (by decide) (P ++ R), rowO 1 (by decide) (repl m.toNat P), rowO 1 (by decide) (repl m.toNat P)]), boxW qq0_14 4 5 ⟨#[]⟩, boxE qq1_14, boxW qX2 4 1 ⟨#[]⟩, boxW qY2 4 2 ⟨#[]⟩, boxW qa82 4 4 ⟨#[]⟩] ++ []) (w52) := by
              refine (show Sep w ([valsR (.slice va_52_1 P.length vc_52_1) P, valsR (.slice va_52_2 L2 vc_52_2) (repl c P ++ P), boxW qq0_15 4 6 ⟨#[]⟩, boxE qq1_15, heapR h (HX [rowO 1 (by decide) P, rowO 1 (by decide) R, rowO 2 (by decide) R, rowO 1 (by decide) (P ++ R), rowO 1 (by decide) (repl m.toNat P), rowO 1 (by decide) (repl m.toNat P)]), boxW qq0_14 4 5 ⟨#[]⟩, boxE qq1_14, boxW qX2 4 1 ⟨#[]⟩, boxW qY2 4 2 ⟨#[]⟩, boxW qa82 4 4 ⟨#[]⟩] ++ []) _ from S).perm ?_
              exact List.Perm.append_right [] (perm_of (l := [valsR (.slice va_52_1 P.length vc_52_1) P, valsR (.slice va_52_2 L2 vc_52_2) (repl c P ++ P), boxW qq0_15 4 6 ⟨#[]⟩, boxE qq1_15, heapR h (HX [rowO 1 (by decide) P, rowO 1 (by decide) R, rowO 2 (by decide) R, rowO 1 (by decide) (P ++ R), rowO 1 (by decide) (repl m.toNat P), rowO 1 (by decide) (repl m.toNat P)]), boxW qq0_14 4 5 ⟨#[]⟩, boxE qq1_14, boxW qX2 4 1 ⟨#[]⟩, boxW qY2 4 2 ⟨#[]⟩, boxW qa82 4 4 ⟨#[]⟩]) [0, 1, 2, 3, 4, 5, 6, 7, 8, 9] (by show (List.range' 0 10).Perm [0, 1, 2, 3, 4, 5, 6, 7, 8, 9]; decide) (by rfl))
            iterate 1 replace S := S.tail
            replace S : Sep w (valsR (.slice va_52_2 L2 vc_52_2) (repl c P ++ P) :: boxW qq0_15 4 6 ⟨#[]⟩ :: boxE qq1_15 :: heapR h (HX [rowO 1 (by decide) P, rowO 1 (by decide) R, rowO 2 (by decide) R, rowO 1 (by decide) (P ++ R), rowO 1 (by decide) (repl m.toNat P), rowO 1 (by decide) (repl m.toNat P)]) :: boxW qq0_14 4 5 ⟨#[]⟩ :: boxE qq1_14 :: boxW qX2 4 1 ⟨#[]⟩ :: boxW qY2 4 2 ⟨#[]⟩ :: boxW qa82 4 4 ⟨#[]⟩ :: []) (w52) := S
            replace S := Lib.hid S
            have hci : IntKind.i64.wrap ((c : Int) + 1) = (c : Int) + 1 := IntWalk.i64_in _ (by have := HM1.out; omega)
            go_wp2
            exact ⟨⟨c + 1, L2, _, _, Lib.hid ⟨by have := HLT.out; omega, by rw [repl, List.length_append, HI.out.2]; exact HL2.out⟩, rfl, by go_num, S.out⟩, by have := HLT.out; simp [intOf]; omega⟩
          ·
            have hce : repl c P = Q5 := by
              rw [HQ5.out, show c = m.toNat by have := HI.out.1; omega]
            have HCE := Lib.hid hce
            clear hce
            refine named (valsR (.slice a L cp) (repl c P) :: boxW qq0_15 4 6 ⟨#[]⟩ :: boxE qq1_15 :: heapR h (HX [rowO 1 (by decide) P, rowO 1 (by decide) R, rowO 2 (by decide) R, rowO 1 (by decide) (P ++ R), rowO 1 (by decide) (repl m.toNat P), rowO 1 (by decide) (repl m.toNat P)]) :: boxW qq0_14 4 5 ⟨#[]⟩ :: boxE qq1_14 :: boxW qX2 4 1 ⟨#[]⟩ :: boxW qY2 4 2 ⟨#[]⟩ :: boxW qa82 4 4 ⟨#[]⟩ :: [] : List Res) fun b21_100 hb21_100 => ?_
            have Hb21_100 := Lib.hid hb21_100
            have Kb21_100 : Hid (∀ W (Q : List Res), Sep w (Q ++ b21_100) W → True) := Lib.hid fun W Q T => by
              rw [hb21_100] at T
              trivial
            have Cb21_100_0 : Hid (∀ W (Q : List Res), Sep w (Q ++ b21_100) W → W.cell? ⟨qX2, 0, none⟩ = some (.int .i64 4) ∧ W.cell? ⟨qX2, 1, none⟩ = some (.int .i64 1) ∧ W.cell? ⟨qX2, 2, none⟩ = some (.string ⟨#[]⟩)) := Lib.hid fun W Q T => by
              rw [hb21_100] at T
              have i0 := T.box (b := qX2) (o := objW 4 1 ⟨#[]⟩) (Q.length + 6) (by rw [List.getElem?_append_right (by omega), Nat.add_sub_cancel_left]; rfl)
              exact ⟨cellAt i0 0 rfl, cellAt i0 1 rfl, cellAt i0 2 rfl⟩
            have Cb21_100_1 : Hid (∀ W (Q : List Res), Sep w (Q ++ b21_100) W → W.cell? ⟨qq0_14, 0, none⟩ = some (.int .i64 4) ∧ W.cell? ⟨qq0_14, 1, none⟩ = some (.int .i64 5) ∧ W.cell? ⟨qq0_14, 2, none⟩ = some (.string ⟨#[]⟩)) := Lib.hid fun W Q T => by
              rw [hb21_100] at T
              have i0 := T.box (b := qq0_14) (o := objW 4 5 ⟨#[]⟩) (Q.length + 4) (by rw [List.getElem?_append_right (by omega), Nat.add_sub_cancel_left]; rfl)
              exact ⟨cellAt i0 0 rfl, cellAt i0 1 rfl, cellAt i0 2 rfl⟩
            have Cb21_100_2 : Hid (∀ W (Q : List Res), Sep w (Q ++ b21_100) W → W.cell? ⟨qq0_15, 0, none⟩ = some (.int .i64 4) ∧ W.cell? ⟨qq0_15, 1, none⟩ = some (.int .i64 6) ∧ W.cell? ⟨qq0_15, 2, none⟩ = some (.string ⟨#[]⟩)) := Lib.hid fun W Q T => by
              rw [hb21_100] at T
              have i0 := T.box (b := qq0_15) (o := objW 4 6 ⟨#[]⟩) (Q.length + 1) (by rw [List.getElem?_append_right (by omega), Nat.add_sub_cancel_left]; rfl)
              exact ⟨cellAt i0 0 rfl, cellAt i0 1 rfl, cellAt i0 2 rfl⟩
            have Cb21_100_3 : Hid (∀ W (Q : List Res), Sep w (Q ++ b21_100) W → W.cell? ⟨qq1_14, 0, none⟩ = some (.string ⟨#[]⟩) ∧ W.cell? ⟨qq1_14, 1, none⟩ = some (.int .i64 0) ∧ W.cell? ⟨qq1_14, 2, none⟩ = some (.int .i64 0) ∧ W.cell? ⟨qq1_14, 3, none⟩ = some (.string ⟨#[]⟩) ∧ W.cell? ⟨qq1_14, 4, none⟩ = some (.bool false)) := Lib.hid fun W Q T => by
              rw [hb21_100] at T
              have i0 := T.box (b := qq1_14) (o := objE) (Q.length + 5) (by rw [List.getElem?_append_right (by omega), Nat.add_sub_cancel_left]; rfl)
              exact ⟨cellAt i0 0 rfl, cellAt i0 1 rfl, cellAt i0 2 rfl, cellAt i0 3 rfl, cellAt i0 4 rfl⟩
            have Cb21_100_4 : Hid (∀ W (Q : List Res), Sep w (Q ++ b21_100) W → W.cell? ⟨qq1_15, 0, none⟩ = some (.string ⟨#[]⟩) ∧ W.cell? ⟨qq1_15, 1, none⟩ = some (.int .i64 0) ∧ W.cell? ⟨qq1_15, 2, none⟩ = some (.int .i64 0) ∧ W.cell? ⟨qq1_15, 3, none⟩ = some (.string ⟨#[]⟩) ∧ W.cell? ⟨qq1_15, 4, none⟩ = some (.bool false)) := Lib.hid fun W Q T => by
              rw [hb21_100] at T
              have i0 := T.box (b := qq1_15) (o := objE) (Q.length + 2) (by rw [List.getElem?_append_right (by omega), Nat.add_sub_cancel_left]; rfl)
              exact ⟨cellAt i0 0 rfl, cellAt i0 1 rfl, cellAt i0 2 rfl, cellAt i0 3 rfl, cellAt i0 4 rfl⟩
            have K21_1 : Hid (∀ W (Q : List Res), Sep w (Q ++ b21_100) W → Calls Tryz.prog 19 #[excZ] W fun e W' => e = .returned (.bool true) ∧ Sep w (Q ++ b21_100) W') := Lib.hid fun W Q T => by
              exact (none_z W).mono fun e W' ⟨e1, e2⟩ => ⟨e1, T.later e2⟩
            have K21_4 : Hid (∀ W (Q : List Res), Sep w (Q ++ b21_100) W → Calls Tryz.prog 19 #[excZ] W fun e W' => e = .returned (.bool true) ∧ Sep w (Q ++ b21_100) W') := Lib.hid fun W Q T => by
              exact (none_z W).mono fun e W' ⟨e1, e2⟩ => ⟨e1, T.later e2⟩
            have K21_19 : Hid (∀ W (Q : List Res), Sep w (Q ++ b21_100) W → Calls Tryz.prog 30 #[.pointer (some ⟨h, 0, none⟩), .agg #[.int .i64 4, .int .i64 5, .string ⟨#[]⟩]] W fun e W' => e = .returned (.int .i64 1) ∧ Sep w (Q ++ b21_100) W') := Lib.hid fun W Q T => by
              rw [Hb21_100.out] at T ⊢
              exact kind_at T (Q.length + 3) (by rw [List.getElem?_append_right (by omega), Nat.add_sub_cancel_left]; rfl) (vX 5 (by decide)) 1 rfl
            have K21_22 : Hid (∀ W (Q : List Res), Sep w (Q ++ b21_100) W → Calls Tryz.prog 30 #[.pointer (some ⟨h, 0, none⟩), .agg #[.int .i64 4, .int .i64 1, .string ⟨#[]⟩]] W fun e W' => e = .returned (.int .i64 1) ∧ Sep w (Q ++ b21_100) W') := Lib.hid fun W Q T => by
              rw [Hb21_100.out] at T ⊢
              exact kind_at T (Q.length + 3) (by rw [List.getElem?_append_right (by omega), Nat.add_sub_cancel_left]; rfl) (vX 1 (by decide)) 1 rfl
            have KI21_28 : Hid (∀ W (Q : List Res), Sep w (Q ++ b21_100) W → Calls Tryz.prog 31 #[.pointer (some ⟨h, 0, none⟩), .agg #[.int .i64 4, .int .i64 5, .string ⟨#[]⟩]] W fun e W' => ∃ a c, e = .returned (.slice a Q5.length c) ∧ Sep w (valsR (.slice a Q5.length c) Q5 :: (Q ++ b21_100)) W') := Lib.hid fun W Q T => by
              rw [Hb21_100.out] at T ⊢
              exact items_at T (Q.length + 3) (by rw [List.getElem?_append_right (by omega), Nat.add_sub_cancel_left]; rfl) (HG6.out.good (by simp)) (by decide) (vX 5 (by decide)) Q5 HQ5.out.symm
            have KI21_35 : Hid (∀ W (Q : List Res), Sep w (Q ++ b21_100) W → Calls Tryz.prog 31 #[.pointer (some ⟨h, 0, none⟩), .agg #[.int .i64 4, .int .i64 6, .string ⟨#[]⟩]] W fun e W' => ∃ a c, e = .returned (.slice a Q5.length c) ∧ Sep w (valsR (.slice a Q5.length c) Q5 :: (Q ++ b21_100)) W') := Lib.hid fun W Q T => by
              rw [Hb21_100.out] at T ⊢
              exact items_at T (Q.length + 3) (by rw [List.getElem?_append_right (by omega), Nat.add_sub_cancel_left]; rfl) (HG6.out.good (by simp)) (by decide) (vX 6 (by decide)) Q5 HQ5.out.symm
            have KA : Hid (∀ W (Q : List Res), Sep w (Q ++ b21_100) W → SeesV W (.slice a L cp) (repl c P)) := Lib.hid fun W Q T => by rw [Hb21_100.out] at T; exact T.seesV (Q.length + 0) (by rw [List.getElem?_append_right (by omega), Nat.add_sub_cancel_left]; rfl)
            replace S := Lib.hid S
            clear hb21_100
            go_upto_region 21 with fail
            have S1 : Sep w ([] ++ b21_100) (wr) := by rw [Hb21_100.out]; exact S.out
            clear S
            refine regionP 28 12 (E := [emptyR, emptyR]) (base := b21_100) (Sep.putE (Sep.putE S1)) ?_
            clear S1
            refine quietP (hy := fun E Wx hSw => by ((refine and5 (Cb21_100_3.out _ _ hSw) fun u0 u1 u2 u3 u4 => ?_); go_simp; exact ⟨rfl, hSw⟩)) (h := ?_)
            simp only [Act.put, pa]; try dsimp only [List.set]
            refine quietP (hy := fun E Wx hSw => by (go_simp; exact symCall (K21_1.out _ _ hSw))) (h := ?_)
            simp only [Act.put, pa]; try dsimp only [List.set]
            refine quietP ?_
            simp only [Act.put, pa]; try dsimp only [List.set]
            refine quietP (hy := fun E Wx hSw => by ((refine and5 (Cb21_100_4.out _ _ hSw) fun u0 u1 u2 u3 u4 => ?_); go_simp; exact ⟨rfl, hSw⟩)) (h := ?_)
            simp only [Act.put, pa]; try dsimp only [List.set]
            refine quietP (hy := fun E Wx hSw => by (go_simp; exact symCall (K21_4.out _ _ hSw))) (h := ?_)
            simp only [Act.put, pa]; try dsimp only [List.set]
            iterate 2 (refine quietP ?_; simp only [Act.put, pa]; try dsimp only [List.set])
            refine quietP (hy := fun E Wx hSw => by ((refine and3 (Cb21_100_1.out _ _ hSw) fun u0 u1 u2 => ?_); go_simp; exact ⟨rfl, hSw⟩)) (h := ?_)
            simp only [Act.put, pa]; try dsimp only [List.set]
            refine quietP (hy := fun E Wx hSw => by ((refine and3 (Cb21_100_2.out _ _ hSw) fun u0 u1 u2 => ?_); go_simp; exact ⟨rfl, hSw⟩)) (h := ?_)
            simp only [Act.put, pa]; try dsimp only [List.set]
            iterate 3 (refine quietP ?_; simp only [Act.put, pa]; try dsimp only [List.set])
            refine quietP (hy := fun E Wx hSw => by ((refine and3 (Cb21_100_1.out _ _ hSw) fun u0 u1 u2 => ?_); go_simp; exact ⟨rfl, hSw⟩)) (h := ?_)
            simp only [Act.put, pa]; try dsimp only [List.set]
            refine quietP (hy := fun E Wx hSw => by ((refine and3 (Cb21_100_0.out _ _ hSw) fun u0 u1 u2 => ?_); go_simp; exact ⟨rfl, hSw⟩)) (h := ?_)
            simp only [Act.put, pa]; try dsimp only [List.set]
            iterate 4 (refine quietP ?_; simp only [Act.put, pa]; try dsimp only [List.set])
            refine quietP (hy := fun E Wx hSw => by ((refine and3 (Cb21_100_1.out _ _ hSw) fun u0 u1 u2 => ?_); go_simp; exact ⟨rfl, hSw⟩)) (h := ?_)
            simp only [Act.put, pa]; try dsimp only [List.set]
            refine quietP (hy := fun E Wx hSw => by (go_simp; exact symCall (K21_19.out _ _ hSw))) (h := ?_)
            simp only [Act.put, pa]; try dsimp only [List.set]
            refine quietP ?_
            simp only [Act.put, pa]; try dsimp only [List.set]
            refine quietP (hy := fun E Wx hSw => by ((refine and3 (Cb21_100_0.out _ _ hSw) fun u0 u1 u2 => ?_); go_simp; exact ⟨rfl, hSw⟩)) (h := ?_)
            simp only [Act.put, pa]; try dsimp only [List.set]
            refine quietP (hy := fun E Wx hSw => by (go_simp; exact symCall (K21_22.out _ _ hSw))) (h := ?_)
            simp only [Act.put, pa]; try dsimp only [List.set]
            iterate 4 (refine quietP ?_; simp only [Act.put, pa]; try dsimp only [List.set])
            refine quietP (hy := fun E Wx hSw => by ((refine and3 (Cb21_100_1.out _ _ hSw) fun u0 u1 u2 => ?_); go_simp; exact ⟨rfl, hSw⟩)) (h := ?_)
            simp only [Act.put, pa]; try dsimp only [List.set]
            refine endP ?_
            refine quietS 29 ?_
            simp only [Act.put, pa]; try dsimp only [List.set]
            refine readyS [28] ?_
            refine stepS (fun v E1 => ∃ (va_102_1 : Option Addr) (vc_102_1 : Nat), v = .slice va_102_1 Q5.length vc_102_1 ∧ E1 = [valsR (.slice va_102_1 Q5.length vc_102_1) Q5, emptyR]) (h1 := fun Wx hSw => by (go_simp; refine symCallN ?_; exact (KI21_28.out _ _ hSw).mono fun e W' ⟨a, c, e1, e2⟩ => ⟨_, _, e1, ⟨a, c, rfl, rfl⟩, e2.into 0 rfl⟩)) (h2 := fun v E1 hvE => ?_) (hs := nilS)
            obtain ⟨va_102_1, vc_102_1, rfl, rfl⟩ := hvE
            simp only [Act.put, pa]; try dsimp only [List.set]
            refine readyS [30] ?_
            refine detS (.bool true) [valsR (.slice va_102_1 Q5.length vc_102_1) Q5, emptyR] (h1 := fun Wx hSw => by (go_simp; refine symCall ?_; exact same_at hSw (hSw.seesV 0 rfl) (KA.out _ _ hSw) HCE.out.symm)) (h2 := ?_) (hs := nilS)
            simp only [Act.put, pa]; try dsimp only [List.set]
            refine quietS 31 ?_
            simp only [Act.put, pa]; try dsimp only [List.set]
            refine quietS 32 ?_
            simp only [Act.put, pa]; try dsimp only [List.set]
            refine quietS 33 ?_
            simp only [Act.put, pa]; try dsimp only [List.set]
            refine quietS 34 (hy := fun E Wx hSw => by ((refine and3 (Cb21_100_2.out _ _ hSw) fun u0 u1 u2 => ?_); go_simp; exact ⟨rfl, hSw⟩)) (h := ?_)
            simp only [Act.put, pa]; try dsimp only [List.set]
            refine quietS 36 ?_
            simp only [Act.put, pa]; try dsimp only [List.set]
            refine readyS [35] ?_
            refine stepS (fun v E1 => ∃ (va_102_3 : Option Addr) (vc_102_3 : Nat), v = .slice va_102_3 Q5.length vc_102_3 ∧ E1 = [valsR (.slice va_102_1 Q5.length vc_102_1) Q5, valsR (.slice va_102_3 Q5.length vc_102_3) Q5]) (h1 := fun Wx hSw => by (go_simp; refine symCallN ?_; exact (KI21_35.out _ _ hSw).mono fun e W' ⟨a, c, e1, e2⟩ => ⟨_, _, e1, ⟨a, c, rfl, rfl⟩, e2.into 1 rfl⟩)) (h2 := fun v E1 hvE => ?_) (hs := nilS)
            obtain ⟨va_102_3, vc_102_3, rfl, rfl⟩ := hvE
            simp only [Act.put, pa]; try dsimp only [List.set]
            refine readyS [37] ?_
            refine detS (.bool true) [valsR (.slice va_102_1 Q5.length vc_102_1) Q5, valsR (.slice va_102_3 Q5.length vc_102_3) Q5] (h1 := fun Wx hSw => by (go_simp; refine symCall ?_; exact same_at hSw (hSw.seesV 1 rfl) (KA.out _ _ hSw) HCE.out.symm)) (h2 := ?_) (hs := nilS)
            simp only [Act.put, pa]; try dsimp only [List.set]
            refine quietS 38 ?_
            simp only [Act.put, pa]; try dsimp only [List.set]
            refine quietS 39 ?_
            simp only [Act.put, pa]; try dsimp only [List.set]
            refine doneS (h := fun w102 S => ?_)
            replace S : Sep w (valsR (.slice va_102_1 Q5.length vc_102_1) Q5 :: valsR (.slice va_102_3 Q5.length vc_102_3) Q5 :: valsR (.slice a L cp) (repl c P) :: boxW qq0_15 4 6 ⟨#[]⟩ :: boxE qq1_15 :: heapR h (HX [rowO 1 (by decide) P, rowO 1 (by decide) R, rowO 2 (by decide) R, rowO 1 (by decide) (P ++ R), rowO 1 (by decide) (repl m.toNat P), rowO 1 (by decide) (repl m.toNat P)]) :: boxW qq0_14 4 5 ⟨#[]⟩ :: boxE qq1_14 :: boxW qX2 4 1 ⟨#[]⟩ :: boxW qY2 4 2 ⟨#[]⟩ :: boxW qa82 4 4 ⟨#[]⟩ :: []) w102 := by rw [Hb21_100.out] at S; exact S
            clear Hb21_100 Kb21_100 K21_1 K21_4 K21_19 K21_22 KI21_28 KI21_35 KA Cb21_100_0 Cb21_100_1 Cb21_100_2 Cb21_100_3 Cb21_100_4
            replace S := Lib.hid S.below
            go_wp2
            go_ret
            exact ⟨rfl, S.out⟩
set_option maxRecDepth 100000 in
set_option maxHeartbeats 12800000 in
theorem walk_true (w : World) (sa sb : Value) (la lb : List V) (hsa : SeesV w sa la) (hsb : SeesV w sb lb) (n : Int) (hn : (Lit.int .i8 n).wf = true) :
    Calls Tryz.prog 13 #[sa, sb, .bool true, .int .i8 n] w fun e W' => e = .returned (.bool true) ∧ Below w.heap.size w W' := by
  obtain ⟨P, hP⟩ : ∃ P, P = (la.take 8).map plainV := ⟨_, rfl⟩
  have hnP : (la.take 8).length = P.length := by rw [hP, List.length_map]
  have H8P := Lib.hid (show P.length ≤ 8 by rw [← hnP, List.length_take]; omega)
  have HPP := Lib.hid hP
  have HNP := Lib.hid hnP
  obtain ⟨R, hR⟩ : ∃ P, P = (lb.take 8).map plainV := ⟨_, rfl⟩
  have hnR : (lb.take 8).length = R.length := by rw [hR, List.length_map]
  have H8R := Lib.hid (show R.length ≤ 8 by rw [← hnR, List.length_take]; omega)
  have HPR := Lib.hid hR
  have HNR := Lib.hid hnR
  have HNB := Lib.hid hn
  have HSA := Lib.hid hsa
  have HSB := Lib.hid hsb
  have S := Sep.start (Below.refl w.heap.size w)
  have M0 := Lib.hid (shown_ok S)
  clear S hn hsa hsb hP hR hnP hnR
  go_enter Tryz.func13, Tryz.ntmps13
  go_wp2_with fail
  refine M0.out.mono ?_
  rintro e w1 ⟨rfl, S⟩
  clear M0
  have M := Lib.hid S.new
  clear S
  go_wp2_with fail
  refine M.out.mono ?_
  rintro e w2 ⟨h, rfl, S, -⟩
  clear M
  replace S : Sep w (heapR h (HX []) :: []) _ := S
  have HG0 := Lib.hid HXG.nil
  have HG1 : Hid (HXG [rowO 2 (by decide) P]) := Lib.hid (HG0.out.snoc (by have := H8P.out; omega))
  replace S : Sep w (heapR h (HX []) :: []) (w2) := by
    refine (show Sep w ([heapR h (HX [])] ++ []) _ from S).perm ?_
    exact List.Perm.append_right [] (perm_of (l := [heapR h (HX [])]) [0] (by show (List.range' 0 1).Perm [0]; decide) (by rfl))
  refine named ([] : List Res) fun b5_2 hb5_2 => ?_
  have Hb5_2 := Lib.hid hb5_2
  have Kb5_2 : Hid (∀ W (Q : List Res), Sep w (Q ++ b5_2) W → True) := Lib.hid fun W Q T => by
    rw [hb5_2] at T
    trivial
  replace S := Lib.hid S
  clear hb5_2
  go_upto_region 5 with fail
  have S1 : Sep w ([heapR h (HX [])] ++ b5_2) (w2) := by rw [Hb5_2.out]; exact S.out
  clear S
  refine regionL (E := [emptyR, heapR h (HX [])]) (base := b5_2) (Sep.putE S1) ?_
  clear S1
  iterate 3 (refine quietL ?_; simp only [Act.put, pa]; try dsimp only [List.set])
  refine detL (.tuple #[.agg #[.int .i64 4, .int .i64 1, .string ⟨#[]⟩], .int .i64 P.length]) [emptyR, heapR h (HX [rowO 2 (by decide) P])] (h1 := fun Wx hSw => by (go_simp; refine symCall ?_; have hh := rows_tuple hSw 1 rfl (HG0.out.good (by simp)) (by decide) sa la (HSA.out); rw [HNP.out, ← HPP.out] at hh; exact hh)) (h2 := ?_)
  simp only [Act.put, pa]; try dsimp only [List.set]
  iterate 3 (refine quietL ?_; simp only [Act.put, pa]; try dsimp only [List.set])
  refine allocL 0 rfl (fun q => .pointer (some ⟨q, 0, none⟩)) (.cells #[.int .i64 0, .int .i64 0, .string ⟨#[]⟩] 29) (h1 := fun Wx => by go_simp) (h2 := fun qX2 => ?_)
  simp only [Act.put, pa]; try dsimp only [List.set]
  try simp only [List.set_cons_zero, List.set_cons_succ]
  refine detL undef [boxW qX2 4 1 ⟨#[]⟩, heapR h (HX [rowO 2 (by decide) P])] (h1 := fun Wx hSw => by (have hz := hSw.box (b := qX2) (o := objZ) 0 rfl; refine useZ3 hz fun z0 z1 z2 y0 y1 y2 => ?_; go_simp; exact ⟨rfl, hSw.set3 0 rfl (.int .i64 4) (.int .i64 1) (.string ⟨#[]⟩)⟩)) (h2 := ?_)
  simp only [Act.put, pa]; try dsimp only [List.set]
  refine quietL ?_
  simp only [Act.put, pa]; try dsimp only [List.set]
  intro w4 S
  replace S : Sep w (boxW qX2 4 1 ⟨#[]⟩ :: heapR h (HX [rowO 2 (by decide) P]) :: []) w4 := by rw [Hb5_2.out] at S; exact S
  clear Hb5_2 Kb5_2
  have HG2 : Hid (HXG [rowO 2 (by decide) P, rowO 2 (by decide) R]) := Lib.hid (HG1.out.snoc (by have := H8R.out; omega))
  replace S : Sep w (heapR h (HX [rowO 2 (by decide) P]) :: boxW qX2 4 1 ⟨#[]⟩ :: []) (w4) := by
    refine (show Sep w ([boxW qX2 4 1 ⟨#[]⟩, heapR h (HX [rowO 2 (by decide) P])] ++ []) _ from S).perm ?_
    exact List.Perm.append_right [] (perm_of (l := [boxW qX2 4 1 ⟨#[]⟩, heapR h (HX [rowO 2 (by decide) P])]) [1, 0] (by show (List.range' 0 2).Perm [1, 0]; decide) (by rfl))
  refine named (boxW qX2 4 1 ⟨#[]⟩ :: [] : List Res) fun b6_4 hb6_4 => ?_
  have Hb6_4 := Lib.hid hb6_4
  have Kb6_4 : Hid (∀ W (Q : List Res), Sep w (Q ++ b6_4) W → True) := Lib.hid fun W Q T => by
    rw [hb6_4] at T
    trivial
  replace S := Lib.hid S
  clear hb6_4
  go_upto_region 6 with fail
  have S1 : Sep w ([heapR h (HX [rowO 2 (by decide) P])] ++ b6_4) (w4) := by rw [Hb6_4.out]; exact S.out
  clear S
  refine regionL (E := [emptyR, heapR h (HX [rowO 2 (by decide) P])]) (base := b6_4) (Sep.putE S1) ?_
  clear S1
  iterate 3 (refine quietL ?_; simp only [Act.put, pa]; try dsimp only [List.set])
  refine detL (.tuple #[.agg #[.int .i64 4, .int .i64 2, .string ⟨#[]⟩], .int .i64 R.length]) [emptyR, heapR h (HX [rowO 2 (by decide) P, rowO 2 (by decide) R])] (h1 := fun Wx hSw => by (go_simp; refine symCall ?_; have hh := rows_tuple hSw 1 rfl (HG1.out.good (by simp)) (by decide) sb lb (HSB.out); rw [HNR.out, ← HPR.out] at hh; exact hh)) (h2 := ?_)
  simp only [Act.put, pa]; try dsimp only [List.set]
  iterate 3 (refine quietL ?_; simp only [Act.put, pa]; try dsimp only [List.set])
  refine allocL 0 rfl (fun q => .pointer (some ⟨q, 0, none⟩)) (.cells #[.int .i64 0, .int .i64 0, .string ⟨#[]⟩] 29) (h1 := fun Wx => by go_simp) (h2 := fun qY2 => ?_)
  simp only [Act.put, pa]; try dsimp only [List.set]
  try simp only [List.set_cons_zero, List.set_cons_succ]
  refine detL undef [boxW qY2 4 2 ⟨#[]⟩, heapR h (HX [rowO 2 (by decide) P, rowO 2 (by decide) R])] (h1 := fun Wx hSw => by (have hz := hSw.box (b := qY2) (o := objZ) 0 rfl; refine useZ3 hz fun z0 z1 z2 y0 y1 y2 => ?_; go_simp; exact ⟨rfl, hSw.set3 0 rfl (.int .i64 4) (.int .i64 2) (.string ⟨#[]⟩)⟩)) (h2 := ?_)
  simp only [Act.put, pa]; try dsimp only [List.set]
  refine quietL ?_
  simp only [Act.put, pa]; try dsimp only [List.set]
  intro w6 S
  replace S : Sep w (boxW qY2 4 2 ⟨#[]⟩ :: heapR h (HX [rowO 2 (by decide) P, rowO 2 (by decide) R]) :: boxW qX2 4 1 ⟨#[]⟩ :: []) w6 := by rw [Hb6_4.out] at S; exact S
  clear Hb6_4 Kb6_4
  have HG3 : Hid (HXG [rowO 2 (by decide) P, rowO 2 (by decide) R, rowO 1 (by decide) R]) := Lib.hid (HG2.out.snoc (by have := H8R.out; omega))
  replace S : Sep w (heapR h (HX [rowO 2 (by decide) P, rowO 2 (by decide) R]) :: boxW qY2 4 2 ⟨#[]⟩ :: boxW qX2 4 1 ⟨#[]⟩ :: []) (w6) := by
    refine (show Sep w ([boxW qY2 4 2 ⟨#[]⟩, heapR h (HX [rowO 2 (by decide) P, rowO 2 (by decide) R]), boxW qX2 4 1 ⟨#[]⟩] ++ []) _ from S).perm ?_
    exact List.Perm.append_right [] (perm_of (l := [boxW qY2 4 2 ⟨#[]⟩, heapR h (HX [rowO 2 (by decide) P, rowO 2 (by decide) R]), boxW qX2 4 1 ⟨#[]⟩]) [1, 0, 2] (by show (List.range' 0 3).Perm [1, 0, 2]; decide) (by rfl))
  refine named (boxW qY2 4 2 ⟨#[]⟩ :: boxW qX2 4 1 ⟨#[]⟩ :: [] : List Res) fun b7_6 hb7_6 => ?_
  have Hb7_6 := Lib.hid hb7_6
  have Kb7_6 : Hid (∀ W (Q : List Res), Sep w (Q ++ b7_6) W → True) := Lib.hid fun W Q T => by
    rw [hb7_6] at T
    trivial
  replace S := Lib.hid S
  clear hb7_6
  go_upto_region 7 with fail
  have S1 : Sep w ([heapR h (HX [rowO 2 (by decide) P, rowO 2 (by decide) R])] ++ b7_6) (w6) := by rw [Hb7_6.out]; exact S.out
  clear S
  refine regionL (E := [emptyR, heapR h (HX [rowO 2 (by decide) P, rowO 2 (by decide) R])]) (base := b7_6) (Sep.putE S1) ?_
  clear S1
  iterate 4 (refine quietL ?_; simp only [Act.put, pa]; try dsimp only [List.set])
  refine detL (.tuple #[.agg #[.int .i64 4, .int .i64 3, .string ⟨#[]⟩], .int .i64 R.length]) [emptyR, heapR h (HX [rowO 2 (by decide) P, rowO 2 (by decide) R, rowO 1 (by decide) R])] (h1 := fun Wx hSw => by (go_simp; refine symCall ?_; have hh := rows_list hSw 1 rfl (HG2.out.good (by simp)) (by decide) sb lb (HSB.out); rw [HNR.out, ← HPR.out] at hh; exact hh)) (h2 := ?_)
  simp only [Act.put, pa]; try dsimp only [List.set]
  iterate 3 (refine quietL ?_; simp only [Act.put, pa]; try dsimp only [List.set])
  refine allocL 0 rfl (fun q => .pointer (some ⟨q, 0, none⟩)) (.cells #[.int .i64 0, .int .i64 0, .string ⟨#[]⟩] 29) (h1 := fun Wx => by go_simp) (h2 := fun qO2 => ?_)
  simp only [Act.put, pa]; try dsimp only [List.set]
  try simp only [List.set_cons_zero, List.set_cons_succ]
  refine detL undef [boxW qO2 4 3 ⟨#[]⟩, heapR h (HX [rowO 2 (by decide) P, rowO 2 (by decide) R, rowO 1 (by decide) R])] (h1 := fun Wx hSw => by (have hz := hSw.box (b := qO2) (o := objZ) 0 rfl; refine useZ3 hz fun z0 z1 z2 y0 y1 y2 => ?_; go_simp; exact ⟨rfl, hSw.set3 0 rfl (.int .i64 4) (.int .i64 3) (.string ⟨#[]⟩)⟩)) (h2 := ?_)
  simp only [Act.put, pa]; try dsimp only [List.set]
  refine quietL ?_
  simp only [Act.put, pa]; try dsimp only [List.set]
  intro w8 S
  replace S : Sep w (boxW qO2 4 3 ⟨#[]⟩ :: heapR h (HX [rowO 2 (by decide) P, rowO 2 (by decide) R, rowO 1 (by decide) R]) :: boxW qY2 4 2 ⟨#[]⟩ :: boxW qX2 4 1 ⟨#[]⟩ :: []) w8 := by rw [Hb7_6.out] at S; exact S
  clear Hb7_6 Kb7_6
  have HG4 : Hid (HXG [rowO 2 (by decide) P, rowO 2 (by decide) R, rowO 1 (by decide) R, rowO 2 (by decide) (P ++ R)]) := Lib.hid (HG3.out.snoc (by rw [List.length_append]; have := H8P.out; have := H8R.out; omega))
  replace S : Sep w (heapR h (HX [rowO 2 (by decide) P, rowO 2 (by decide) R, rowO 1 (by decide) R]) :: boxW qO2 4 3 ⟨#[]⟩ :: boxW qY2 4 2 ⟨#[]⟩ :: boxW qX2 4 1 ⟨#[]⟩ :: []) (w8) := by
    refine (show Sep w ([boxW qO2 4 3 ⟨#[]⟩, heapR h (HX [rowO 2 (by decide) P, rowO 2 (by decide) R, rowO 1 (by decide) R]), boxW qY2 4 2 ⟨#[]⟩, boxW qX2 4 1 ⟨#[]⟩] ++ []) _ from S).perm ?_
    exact List.Perm.append_right [] (perm_of (l := [boxW qO2 4 3 ⟨#[]⟩, heapR h (HX [rowO 2 (by decide) P, rowO 2 (by decide) R, rowO 1 (by decide) R]), boxW qY2 4 2 ⟨#[]⟩, boxW qX2 4 1 ⟨#[]⟩]) [1, 0, 2, 3] (by show (List.range' 0 4).Perm [1, 0, 2, 3]; decide) (by rfl))
  refine named (boxW qO2 4 3 ⟨#[]⟩ :: boxW qY2 4 2 ⟨#[]⟩ :: boxW qX2 4 1 ⟨#[]⟩ :: [] : List Res) fun b8_8 hb8_8 => ?_
  have Hb8_8 := Lib.hid hb8_8
  have Kb8_8 : Hid (∀ W (Q : List Res), Sep w (Q ++ b8_8) W → True) := Lib.hid fun W Q T => by
    rw [hb8_8] at T
    trivial
  have Cb8_8_0 : Hid (∀ W (Q : List Res), Sep w (Q ++ b8_8) W → W.cell? ⟨qX2, 0, none⟩ = some (.int .i64 4) ∧ W.cell? ⟨qX2, 1, none⟩ = some (.int .i64 1) ∧ W.cell? ⟨qX2, 2, none⟩ = some (.string ⟨#[]⟩)) := Lib.hid fun W Q T => by
    rw [hb8_8] at T
    have i0 := T.box (b := qX2) (o := objW 4 1 ⟨#[]⟩) (Q.length + 2) (by rw [List.getElem?_append_right (by omega), Nat.add_sub_cancel_left]; rfl)
    exact ⟨cellAt i0 0 rfl, cellAt i0 1 rfl, cellAt i0 2 rfl⟩
  have Cb8_8_1 : Hid (∀ W (Q : List Res), Sep w (Q ++ b8_8) W → W.cell? ⟨qY2, 0, none⟩ = some (.int .i64 4) ∧ W.cell? ⟨qY2, 1, none⟩ = some (.int .i64 2) ∧ W.cell? ⟨qY2, 2, none⟩ = some (.string ⟨#[]⟩)) := Lib.hid fun W Q T => by
    rw [hb8_8] at T
    have i0 := T.box (b := qY2) (o := objW 4 2 ⟨#[]⟩) (Q.length + 1) (by rw [List.getElem?_append_right (by omega), Nat.add_sub_cancel_left]; rfl)
    exact ⟨cellAt i0 0 rfl, cellAt i0 1 rfl, cellAt i0 2 rfl⟩
  replace S := Lib.hid S
  clear hb8_8
  go_upto_region 8 with fail
  have S1 : Sep w ([heapR h (HX [rowO 2 (by decide) P, rowO 2 (by decide) R, rowO 1 (by decide) R])] ++ b8_8) (w8) := by rw [Hb8_8.out]; exact S.out
  clear S
  refine regionL (E := [emptyR, emptyR, heapR h (HX [rowO 2 (by decide) P, rowO 2 (by decide) R, rowO 1 (by decide) R])]) (base := b8_8) (Sep.putE (Sep.putE S1)) ?_
  clear S1
  refine quietL ?_
  simp only [Act.put, pa]; try dsimp only [List.set]
  refine quietL (hy := fun E Wx hSw => by ((refine and3 (Cb8_8_0.out _ _ hSw) fun u0 u1 u2 => ?_); go_simp; exact ⟨rfl, hSw⟩)) (h := ?_)
  simp only [Act.put, pa]; try dsimp only [List.set]
  refine quietL (hy := fun E Wx hSw => by ((refine and3 (Cb8_8_1.out _ _ hSw) fun u0 u1 u2 => ?_); go_simp; exact ⟨rfl, hSw⟩)) (h := ?_)
  simp only [Act.put, pa]; try dsimp only [List.set]
  refine detL (.tuple #[.agg #[.int .i64 4, .int .i64 4, .string ⟨#[]⟩], excZ]) [emptyR, emptyR, heapR h (HX [rowO 2 (by decide) P, rowO 2 (by decide) R, rowO 1 (by decide) R, rowO 2 (by decide) (P ++ R)])] (h1 := fun Wx hSw => by (go_simp; refine symCall ?_; exact bin_add_row hSw 2 rfl (HG3.out.good (by simp)) (by decide) (vX 1 (by decide)) (vX 2 (by decide)) rfl rfl (by have := H8P.out; have := H8R.out; show P.length + R.length ≤ 4096; omega))) (h2 := ?_)
  simp only [Act.put, pa]; try dsimp only [List.set]
  iterate 3 (refine quietL ?_; simp only [Act.put, pa]; try dsimp only [List.set])
  refine allocL 0 rfl (fun q => .pointer (some ⟨q, 0, none⟩)) (.cells #[.int .i64 0, .int .i64 0, .string ⟨#[]⟩] 29) (h1 := fun Wx => by go_simp) (h2 := fun qa82 => ?_)
  simp only [Act.put, pa]; try dsimp only [List.set]
  try simp only [List.set_cons_zero, List.set_cons_succ]
  refine allocL 1 rfl (fun q => .pointer (some ⟨q, 0, none⟩)) (.cells #[.string ⟨#[]⟩, .int .i64 0, .int .i64 0, .string ⟨#[]⟩, .bool false] 38) (h1 := fun Wx => by go_simp) (h2 := fun qb83 => ?_)
  simp only [Act.put, pa]; try dsimp only [List.set]
  try simp only [List.set_cons_zero, List.set_cons_succ]
  refine detL undef [boxW qa82 4 4 ⟨#[]⟩, boxE qb83, heapR h (HX [rowO 2 (by decide) P, rowO 2 (by decide) R, rowO 1 (by decide) R, rowO 2 (by decide) (P ++ R)])] (h1 := fun Wx hSw => by (have hz := hSw.box (b := qa82) (o := objZ) 0 rfl; refine useZ3 hz fun z0 z1 z2 y0 y1 y2 => ?_; go_simp; exact ⟨rfl, hSw.set3 0 rfl (.int .i64 4) (.int .i64 4) (.string ⟨#[]⟩)⟩)) (h2 := ?_)
  simp only [Act.put, pa]; try dsimp only [List.set]
  refine detL undef [boxW qa82 4 4 ⟨#[]⟩, boxE qb83, heapR h (HX [rowO 2 (by decide) P, rowO 2 (by decide) R, rowO 1 (by decide) R, rowO 2 (by decide) (P ++ R)])] (h1 := fun Wx hSw => by (have hz := hSw.box (b := qb83) (o := objE) 1 rfl; refine useZ5 hz fun z0 z1 z2 z3 z4 y0 y1 y2 y3 y4 => ?_; go_simp; exact ⟨rfl, hSw.set5 1 rfl (.string ⟨#[]⟩) (.int .i64 0) (.int .i64 0) (.string ⟨#[]⟩) (.bool false)⟩)) (h2 := ?_)
  simp only [Act.put, pa]; try dsimp only [List.set]
  intro w10 S
  replace S : Sep w (boxW qa82 4 4 ⟨#[]⟩ :: boxE qb83 :: heapR h (HX [rowO 2 (by decide) P, rowO 2 (by decide) R, rowO 1 (by decide) R, rowO 2 (by decide) (P ++ R)]) :: boxW qO2 4 3 ⟨#[]⟩ :: boxW qY2 4 2 ⟨#[]⟩ :: boxW qX2 4 1 ⟨#[]⟩ :: []) w10 := by rw [Hb8_8.out] at S; exact S
  clear Hb8_8 Kb8_8 Cb8_8_0 Cb8_8_1
  refine named (boxW qa82 4 4 ⟨#[]⟩ :: boxE qb83 :: heapR h (HX [rowO 2 (by decide) P, rowO 2 (by decide) R, rowO 1 (by decide) R, rowO 2 (by decide) (P ++ R)]) :: boxW qO2 4 3 ⟨#[]⟩ :: boxW qY2 4 2 ⟨#[]⟩ :: boxW qX2 4 1 ⟨#[]⟩ :: [] : List Res) fun b9_10 hb9_10 => ?_
  have Hb9_10 := Lib.hid hb9_10
  have Kb9_10 : Hid (∀ W (Q : List Res), Sep w (Q ++ b9_10) W → True) := Lib.hid fun W Q T => by
    rw [hb9_10] at T
    trivial
  have Cb9_10_0 : Hid (∀ W (Q : List Res), Sep w (Q ++ b9_10) W → W.cell? ⟨qO2, 0, none⟩ = some (.int .i64 4) ∧ W.cell? ⟨qO2, 1, none⟩ = some (.int .i64 3) ∧ W.cell? ⟨qO2, 2, none⟩ = some (.string ⟨#[]⟩)) := Lib.hid fun W Q T => by
    rw [hb9_10] at T
    have i0 := T.box (b := qO2) (o := objW 4 3 ⟨#[]⟩) (Q.length + 3) (by rw [List.getElem?_append_right (by omega), Nat.add_sub_cancel_left]; rfl)
    exact ⟨cellAt i0 0 rfl, cellAt i0 1 rfl, cellAt i0 2 rfl⟩
  have Cb9_10_1 : Hid (∀ W (Q : List Res), Sep w (Q ++ b9_10) W → W.cell? ⟨qX2, 0, none⟩ = some (.int .i64 4) ∧ W.cell? ⟨qX2, 1, none⟩ = some (.int .i64 1) ∧ W.cell? ⟨qX2, 2, none⟩ = some (.string ⟨#[]⟩)) := Lib.hid fun W Q T => by
    rw [hb9_10] at T
    have i0 := T.box (b := qX2) (o := objW 4 1 ⟨#[]⟩) (Q.length + 5) (by rw [List.getElem?_append_right (by omega), Nat.add_sub_cancel_left]; rfl)
    exact ⟨cellAt i0 0 rfl, cellAt i0 1 rfl, cellAt i0 2 rfl⟩
  have K9_3 : Hid (∀ W (Q : List Res), Sep w (Q ++ b9_10) W → Calls Tryz.prog 23 #[.pointer (some ⟨h, 0, none⟩), .string ⟨#[43]⟩, .agg #[.int .i64 4, .int .i64 1, .string ⟨#[]⟩], .agg #[.int .i64 4, .int .i64 3, .string ⟨#[]⟩]] W fun e W' => e = .returned (.tuple #[zeroV, excN typeError]) ∧ Sep w (Q ++ b9_10) W') := Lib.hid fun W Q T => by
    rw [Hb9_10.out] at T ⊢
    exact bin_add_wrong T (Q.length + 2) (by rw [List.getElem?_append_right (by omega), Nat.add_sub_cancel_left]; rfl) (vX 1 (by decide)) (vX 3 (by decide)) (fun e => absurd e.1 (by decide)) (fun e => absurd e.1 (by decide)) (by intro e; exact absurd (show (2 : Int) = 1 from e.2) (by decide))
  replace S := Lib.hid S
  clear hb9_10
  go_upto_region 9 with fail
  have S1 : Sep w ([] ++ b9_10) (w10) := by rw [Hb9_10.out]; exact S.out
  clear S
  refine regionL (E := [emptyR, emptyR]) (base := b9_10) (Sep.putE (Sep.putE S1)) ?_
  clear S1
  refine quietL ?_
  simp only [Act.put, pa]; try dsimp only [List.set]
  refine quietL (hy := fun E Wx hSw => by ((refine and3 (Cb9_10_1.out _ _ hSw) fun u0 u1 u2 => ?_); go_simp; exact ⟨rfl, hSw⟩)) (h := ?_)
  simp only [Act.put, pa]; try dsimp only [List.set]
  refine quietL (hy := fun E Wx hSw => by ((refine and3 (Cb9_10_0.out _ _ hSw) fun u0 u1 u2 => ?_); go_simp; exact ⟨rfl, hSw⟩)) (h := ?_)
  simp only [Act.put, pa]; try dsimp only [List.set]
  refine quietL (hy := fun E Wx hSw => by (go_simp; exact symCall (K9_3.out _ _ hSw))) (h := ?_)
  simp only [Act.put, pa]; try dsimp only [List.set]
  iterate 3 (refine quietL ?_; simp only [Act.put, pa]; try dsimp only [List.set])
  refine allocL 0 rfl (fun q => .pointer (some ⟨q, 0, none⟩)) (.cells #[.int .i64 0, .int .i64 0, .string ⟨#[]⟩] 29) (h1 := fun Wx => by go_simp) (h2 := fun qa91 => ?_)
  simp only [Act.put, pa]; try dsimp only [List.set]
  try simp only [List.set_cons_zero, List.set_cons_succ]
  refine allocL 1 rfl (fun q => .pointer (some ⟨q, 0, none⟩)) (.cells #[.string ⟨#[]⟩, .int .i64 0, .int .i64 0, .string ⟨#[]⟩, .bool false] 38) (h1 := fun Wx => by go_simp) (h2 := fun qb92 => ?_)
  simp only [Act.put, pa]; try dsimp only [List.set]
  try simp only [List.set_cons_zero, List.set_cons_succ]
  refine detL undef [boxZ qa91, boxE qb92] (h1 := fun Wx hSw => by (have hz := hSw.box (b := qa91) (o := objZ) 0 rfl; refine useZ3 hz fun z0 z1 z2 y0 y1 y2 => ?_; go_simp; exact ⟨rfl, hSw.set3 0 rfl (.int .i64 0) (.int .i64 0) (.string ⟨#[]⟩)⟩)) (h2 := ?_)
  simp only [Act.put, pa]; try dsimp only [List.set]
  refine detL undef [boxZ qa91, boxN qb92 typeError] (h1 := fun Wx hSw => by (have hz := hSw.box (b := qb92) (o := objE) 1 rfl; refine useZ5 hz fun z0 z1 z2 z3 z4 y0 y1 y2 y3 y4 => ?_; go_simp; exact ⟨rfl, hSw.set5 1 rfl (.string typeError) (.int .i64 0) (.int .i64 0) (.string ⟨#[]⟩) (.bool false)⟩)) (h2 := ?_)
  simp only [Act.put, pa]; try dsimp only [List.set]
  intro w12 S
  replace S : Sep w (boxZ qa91 :: boxN qb92 typeError :: boxW qa82 4 4 ⟨#[]⟩ :: boxE qb83 :: heapR h (HX [rowO 2 (by decide) P, rowO 2 (by decide) R, rowO 1 (by decide) R, rowO 2 (by decide) (P ++ R)]) :: boxW qO2 4 3 ⟨#[]⟩ :: boxW qY2 4 2 ⟨#[]⟩ :: boxW qX2 4 1 ⟨#[]⟩ :: []) w12 := by rw [Hb9_10.out] at S; exact S
  clear Hb9_10 Kb9_10 K9_3 Cb9_10_0 Cb9_10_1
  obtain ⟨mm, hmm⟩ : ∃ m, P.length + R.length = m := ⟨_, rfl⟩
  have HMM := Lib.hid hmm
  have HMB := Lib.hid (show mm ≤ 9000000 by have := H8P.out; have := H8R.out; omega)
  obtain ⟨Q4, hQ4⟩ : ∃ Q, Q = P ++ R := ⟨_, rfl⟩
  have HQ4 := Lib.hid hQ4
  clear hmm hQ4
  refine named (boxZ qa91 :: boxN qb92 typeError :: boxW qa82 4 4 ⟨#[]⟩ :: boxE qb83 :: heapR h (HX [rowO 2 (by decide) P, rowO 2 (by decide) R, rowO 1 (by decide) R, rowO 2 (by decide) (P ++ R)]) :: boxW qO2 4 3 ⟨#[]⟩ :: boxW qY2 4 2 ⟨#[]⟩ :: boxW qX2 4 1 ⟨#[]⟩ :: [] : List Res) fun b10_12 hb10_12 => ?_
  have Hb10_12 := Lib.hid hb10_12
  have Kb10_12 : Hid (∀ W (Q : List Res), Sep w (Q ++ b10_12) W → True) := Lib.hid fun W Q T => by
    rw [hb10_12] at T
    trivial
  have Cb10_12_0 : Hid (∀ W (Q : List Res), Sep w (Q ++ b10_12) W → W.cell? ⟨qX2, 0, none⟩ = some (.int .i64 4) ∧ W.cell? ⟨qX2, 1, none⟩ = some (.int .i64 1) ∧ W.cell? ⟨qX2, 2, none⟩ = some (.string ⟨#[]⟩)) := Lib.hid fun W Q T => by
    rw [hb10_12] at T
    have i0 := T.box (b := qX2) (o := objW 4 1 ⟨#[]⟩) (Q.length + 7) (by rw [List.getElem?_append_right (by omega), Nat.add_sub_cancel_left]; rfl)
    exact ⟨cellAt i0 0 rfl, cellAt i0 1 rfl, cellAt i0 2 rfl⟩
  have Cb10_12_1 : Hid (∀ W (Q : List Res), Sep w (Q ++ b10_12) W → W.cell? ⟨qY2, 0, none⟩ = some (.int .i64 4) ∧ W.cell? ⟨qY2, 1, none⟩ = some (.int .i64 2) ∧ W.cell? ⟨qY2, 2, none⟩ = some (.string ⟨#[]⟩)) := Lib.hid fun W Q T => by
    rw [hb10_12] at T
    have i0 := T.box (b := qY2) (o := objW 4 2 ⟨#[]⟩) (Q.length + 6) (by rw [List.getElem?_append_right (by omega), Nat.add_sub_cancel_left]; rfl)
    exact ⟨cellAt i0 0 rfl, cellAt i0 1 rfl, cellAt i0 2 rfl⟩
  have KI10_2 : Hid (∀ W (Q : List Res), Sep w (Q ++ b10_12) W → Calls Tryz.prog 31 #[.pointer (some ⟨h, 0, none⟩), .agg #[.int .i64 4, .int .i64 1, .string ⟨#[]⟩]] W fun e W' => ∃ a c, e = .returned (.slice a P.length c) ∧ Sep w (valsR (.slice a P.length c) P :: (Q ++ b10_12)) W') := Lib.hid fun W Q T => by
    rw [Hb10_12.out] at T ⊢
    exact items_at T (Q.length + 4) (by rw [List.getElem?_append_right (by omega), Nat.add_sub_cancel_left]; rfl) (HG4.out.good (by simp)) (by decide) (vX 1 (by decide)) P rfl
  have KI10_5 : Hid (∀ W (Q : List Res), Sep w (Q ++ b10_12) W → Calls Tryz.prog 31 #[.pointer (some ⟨h, 0, none⟩), .agg #[.int .i64 4, .int .i64 2, .string ⟨#[]⟩]] W fun e W' => ∃ a c, e = .returned (.slice a R.length c) ∧ Sep w (valsR (.slice a R.length c) R :: (Q ++ b10_12)) W') := Lib.hid fun W Q T => by
    rw [Hb10_12.out] at T ⊢
    exact items_at T (Q.length + 4) (by rw [List.getElem?_append_right (by omega), Nat.add_sub_cancel_left]; rfl) (HG4.out.good (by simp)) (by decide) (vX 2 (by decide)) R rfl
  replace S := Lib.hid S
  clear hb10_12
  go_upto_region 10 with fail
  go_cut [21] (fun s21 wx => ∃ a c a2 c2, s21 = .slice a mm c ∧ Sep w ([valsR (.slice a mm c) (P ++ R), valsR (.slice a2 R.length c2) R] ++ b10_12) wx)
  case first =>
    have S1 : Sep w ([] ++ b10_12) (w12) := by rw [Hb10_12.out]; exact S.out
    clear S
    refine regionP 2 6 (E := [emptyR, emptyR]) (base := b10_12) (Sep.putE (Sep.putE S1)) ?_
    clear S1
    refine quietP ?_
    simp only [Act.put, pa]; try dsimp only [List.set]
    refine quietP (hy := fun E Wx hSw => by ((refine and3 (Cb10_12_0.out _ _ hSw) fun u0 u1 u2 => ?_); go_simp; exact ⟨rfl, hSw⟩)) (h := ?_)
    simp only [Act.put, pa]; try dsimp only [List.set]
    refine endP ?_
    refine quietS 3 ?_
    simp only [Act.put, pa]; try dsimp only [List.set]
    refine quietS 4 (hy := fun E Wx hSw => by ((refine and3 (Cb10_12_1.out _ _ hSw) fun u0 u1 u2 => ?_); go_simp; exact ⟨rfl, hSw⟩)) (h := ?_)
    simp only [Act.put, pa]; try dsimp only [List.set]
    refine readyS [2] ?_
    refine stepS (fun v E1 => ∃ (va_14_1 : Option Addr) (vc_14_1 : Nat), v = .slice va_14_1 P.length vc_14_1 ∧ E1 = [valsR (.slice va_14_1 P.length vc_14_1) P, emptyR]) (h1 := fun Wx hSw => by (go_simp; refine symCallN ?_; exact (KI10_2.out _ _ hSw).mono fun e W' ⟨a, c, e1, e2⟩ => ⟨_, _, e1, ⟨a, c, rfl, rfl⟩, e2.into 0 rfl⟩)) (h2 := fun v E1 hvE => ?_) (hs := nilS)
    obtain ⟨va_14_1, vc_14_1, rfl, rfl⟩ := hvE
    simp only [Act.put, pa]; try dsimp only [List.set]
    refine readyS [5] ?_
    refine stepS (fun v E1 => ∃ (va_14_2 : Option Addr) (vc_14_2 : Nat), v = .slice va_14_2 R.length vc_14_2 ∧ E1 = [valsR (.slice va_14_1 P.length vc_14_1) P, valsR (.slice va_14_2 R.length vc_14_2) R]) (h1 := fun Wx hSw => by (go_simp; refine symCallN ?_; exact (KI10_5.out _ _ hSw).mono fun e W' ⟨a, c, e1, e2⟩ => ⟨_, _, e1, ⟨a, c, rfl, rfl⟩, e2.into 1 rfl⟩)) (h2 := fun v E1 hvE => ?_) (hs := nilS)
    obtain ⟨va_14_2, vc_14_2, rfl, rfl⟩ := hvE
    simp only [Act.put, pa]; try dsimp only [List.set]
    refine readyS [6] ?_
    refine stepS (fun v E1 => ∃ (va_14_3 : Option Addr) (vc_14_3 : Nat), v = .slice va_14_3 mm vc_14_3 ∧ E1 = [valsR (.slice va_14_3 mm vc_14_3) (P ++ R), valsR (.slice va_14_2 R.length vc_14_2) R]) (h1 := fun Wx hSw => by (obtain ⟨va, vc, w2, hr, S2⟩ := hSw.appendV 0 rfl rfl (hSw.seesV 1 rfl) mm HMM.out HMB.out; exact symAppend _ _ _ _ rfl _ _ rfl rfl hr ⟨_, ⟨va, vc, rfl, rfl⟩, S2⟩)) (h2 := fun v E1 hvE => ?_) (hs := nilS)
    obtain ⟨va_14_3, vc_14_3, rfl, rfl⟩ := hvE
    simp only [Act.put, pa]; try dsimp only [List.set]
    refine quietS 7 ?_
    simp only [Act.put, pa]; try dsimp only [List.set]
    refine doneS (h := fun w14 S => ?_)
    go_wp2_with fail
    as_aux_lemma => (go_meet; exact ⟨_, _, _, _, rfl, S⟩)
  case rest =>
    obtain ⟨a10, c10, a11, c11, rfl, S⟩ := hcut
    replace S : Sep w (valsR (.slice a10 mm c10) (P ++ R) :: valsR (.slice a11 R.length c11) R :: boxZ qa91 :: boxN qb92 typeError :: boxW qa82 4 4 ⟨#[]⟩ :: boxE qb83 :: heapR h (HX [rowO 2 (by decide) P, rowO 2 (by decide) R, rowO 1 (by decide) R, rowO 2 (by decide) (P ++ R)]) :: boxW qO2 4 3 ⟨#[]⟩ :: boxW qY2 4 2 ⟨#[]⟩ :: boxW qX2 4 1 ⟨#[]⟩ :: []) wc := by rw [Hb10_12.out] at S; exact S
    clear Hb10_12 Kb10_12 KI10_2 KI10_5 Cb10_12_0 Cb10_12_1
    refine named (valsR (.slice a10 mm c10) (P ++ R) :: valsR (.slice a11 R.length c11) R :: boxZ qa91 :: boxN qb92 typeError :: boxW qa82 4 4 ⟨#[]⟩ :: boxE qb83 :: heapR h (HX [rowO 2 (by decide) P, rowO 2 (by decide) R, rowO 1 (by decide) R, rowO 2 (by decide) (P ++ R)]) :: boxW qO2 4 3 ⟨#[]⟩ :: boxW qY2 4 2 ⟨#[]⟩ :: boxW qX2 4 1 ⟨#[]⟩ :: [] : List Res) fun b11_14 hb11_14 => ?_
    have Hb11_14 := Lib.hid hb11_14
    have Kb11_14 : Hid (∀ W (Q : List Res), Sep w (Q ++ b11_14) W → True) := Lib.hid fun W Q T => by
      rw [hb11_14] at T
      trivial
    have Cb11_14_0 : Hid (∀ W (Q : List Res), Sep w (Q ++ b11_14) W → W.cell? ⟨qX2, 0, none⟩ = some (.int .i64 4) ∧ W.cell? ⟨qX2, 1, none⟩ = some (.int .i64 1) ∧ W.cell? ⟨qX2, 2, none⟩ = some (.string ⟨#[]⟩)) := Lib.hid fun W Q T => by
      rw [hb11_14] at T
      have i0 := T.box (b := qX2) (o := objW 4 1 ⟨#[]⟩) (Q.length + 9) (by rw [List.getElem?_append_right (by omega), Nat.add_sub_cancel_left]; rfl)
      exact ⟨cellAt i0 0 rfl, cellAt i0 1 rfl, cellAt i0 2 rfl⟩
    have Cb11_14_1 : Hid (∀ W (Q : List Res), Sep w (Q ++ b11_14) W → W.cell? ⟨qY2, 0, none⟩ = some (.int .i64 4) ∧ W.cell? ⟨qY2, 1, none⟩ = some (.int .i64 2) ∧ W.cell? ⟨qY2, 2, none⟩ = some (.string ⟨#[]⟩)) := Lib.hid fun W Q T => by
      rw [hb11_14] at T
      have i0 := T.box (b := qY2) (o := objW 4 2 ⟨#[]⟩) (Q.length + 8) (by rw [List.getElem?_append_right (by omega), Nat.add_sub_cancel_left]; rfl)
      exact ⟨cellAt i0 0 rfl, cellAt i0 1 rfl, cellAt i0 2 rfl⟩
    have Cb11_14_2 : Hid (∀ W (Q : List Res), Sep w (Q ++ b11_14) W → W.cell? ⟨qa82, 0, none⟩ = some (.int .i64 4) ∧ W.cell? ⟨qa82, 1, none⟩ = some (.int .i64 4) ∧ W.cell? ⟨qa82, 2, none⟩ = some (.string ⟨#[]⟩)) := Lib.hid fun W Q T => by
      rw [hb11_14] at T
      have i0 := T.box (b := qa82) (o := objW 4 4 ⟨#[]⟩) (Q.length + 4) (by rw [List.getElem?_append_right (by omega), Nat.add_sub_cancel_left]; rfl)
      exact ⟨cellAt i0 0 rfl, cellAt i0 1 rfl, cellAt i0 2 rfl⟩
    have Cb11_14_3 : Hid (∀ W (Q : List Res), Sep w (Q ++ b11_14) W → W.cell? ⟨qb83, 0, none⟩ = some (.string ⟨#[]⟩) ∧ W.cell? ⟨qb83, 1, none⟩ = some (.int .i64 0) ∧ W.cell? ⟨qb83, 2, none⟩ = some (.int .i64 0) ∧ W.cell? ⟨qb83, 3, none⟩ = some (.string ⟨#[]⟩) ∧ W.cell? ⟨qb83, 4, none⟩ = some (.bool false)) := Lib.hid fun W Q T => by
      rw [hb11_14] at T
      have i0 := T.box (b := qb83) (o := objE) (Q.length + 5) (by rw [List.getElem?_append_right (by omega), Nat.add_sub_cancel_left]; rfl)
      exact ⟨cellAt i0 0 rfl, cellAt i0 1 rfl, cellAt i0 2 rfl, cellAt i0 3 rfl, cellAt i0 4 rfl⟩
    have Cb11_14_4 : Hid (∀ W (Q : List Res), Sep w (Q ++ b11_14) W → W.cell? ⟨qb92, 0, none⟩ = some (.string typeError) ∧ W.cell? ⟨qb92, 1, none⟩ = some (.int .i64 0) ∧ W.cell? ⟨qb92, 2, none⟩ = some (.int .i64 0) ∧ W.cell? ⟨qb92, 3, none⟩ = some (.string ⟨#[]⟩) ∧ W.cell? ⟨qb92, 4, none⟩ = some (.bool false)) := Lib.hid fun W Q T => by
      rw [hb11_14] at T
      have i0 := T.box (b := qb92) (o := objN typeError) (Q.length + 3) (by rw [List.getElem?_append_right (by omega), Nat.add_sub_cancel_left]; rfl)
      exact ⟨cellAt i0 0 rfl, cellAt i0 1 rfl, cellAt i0 2 rfl, cellAt i0 3 rfl, cellAt i0 4 rfl⟩
    have K11_1 : Hid (∀ W (Q : List Res), Sep w (Q ++ b11_14) W → Calls Tryz.prog 19 #[excZ] W fun e W' => e = .returned (.bool true) ∧ Sep w (Q ++ b11_14) W') := Lib.hid fun W Q T => by
      exact (none_z W).mono fun e W' ⟨e1, e2⟩ => ⟨e1, T.later e2⟩
    have K11_5 : Hid (∀ W (Q : List Res), Sep w (Q ++ b11_14) W → Calls Tryz.prog 21 #[excN typeError, .string typeError] W fun e W' => e = .returned (.bool true) ∧ Sep w (Q ++ b11_14) W') := Lib.hid fun W Q T => by
      exact (raised_type W).mono fun e W' ⟨e1, e2⟩ => ⟨e1, T.later e2⟩
    have K11_11 : Hid (∀ W (Q : List Res), Sep w (Q ++ b11_14) W → Calls Tryz.prog 30 #[.pointer (some ⟨h, 0, none⟩), .agg #[.int .i64 4, .int .i64 4, .string ⟨#[]⟩]] W fun e W' => e = .returned (.int .i64 2) ∧ Sep w (Q ++ b11_14) W') := Lib.hid fun W Q T => by
      rw [Hb11_14.out] at T ⊢
      exact kind_at T (Q.length + 6) (by rw [List.getElem?_append_right (by omega), Nat.add_sub_cancel_left]; rfl) (vX 4 (by decide)) 2 rfl
    have K11_14 : Hid (∀ W (Q : List Res), Sep w (Q ++ b11_14) W → Calls Tryz.prog 30 #[.pointer (some ⟨h, 0, none⟩), .agg #[.int .i64 4, .int .i64 1, .string ⟨#[]⟩]] W fun e W' => e = .returned (.int .i64 2) ∧ Sep w (Q ++ b11_14) W') := Lib.hid fun W Q T => by
      rw [Hb11_14.out] at T ⊢
      exact kind_at T (Q.length + 6) (by rw [List.getElem?_append_right (by omega), Nat.add_sub_cancel_left]; rfl) (vX 1 (by decide)) 2 rfl
    have K11_38 : Hid (∀ W (Q : List Res), Sep w (Q ++ b11_14) W → Calls Tryz.prog 24 #[.pointer (some ⟨h, 0, none⟩), .agg #[.int .i64 4, .int .i64 1, .string ⟨#[]⟩]] W fun e W' => e = .returned (.int .i64 P.length) ∧ Sep w (Q ++ b11_14) W') := Lib.hid fun W Q T => by
      rw [Hb11_14.out] at T ⊢
      exact len_at T (Q.length + 6) (by rw [List.getElem?_append_right (by omega), Nat.add_sub_cancel_left]; rfl) (vX 1 (by decide)) P.length rfl
    have K11_45 : Hid (∀ W (Q : List Res), Sep w (Q ++ b11_14) W → Calls Tryz.prog 24 #[.pointer (some ⟨h, 0, none⟩), .agg #[.int .i64 4, .int .i64 2, .string ⟨#[]⟩]] W fun e W' => e = .returned (.int .i64 R.length) ∧ Sep w (Q ++ b11_14) W') := Lib.hid fun W Q T => by
      rw [Hb11_14.out] at T ⊢
      exact len_at T (Q.length + 6) (by rw [List.getElem?_append_right (by omega), Nat.add_sub_cancel_left]; rfl) (vX 2 (by decide)) R.length rfl
    have KI11_30 : Hid (∀ W (Q : List Res), Sep w (Q ++ b11_14) W → Calls Tryz.prog 31 #[.pointer (some ⟨h, 0, none⟩), .agg #[.int .i64 4, .int .i64 4, .string ⟨#[]⟩]] W fun e W' => ∃ a c, e = .returned (.slice a Q4.length c) ∧ Sep w (valsR (.slice a Q4.length c) Q4 :: (Q ++ b11_14)) W') := Lib.hid fun W Q T => by
      rw [Hb11_14.out] at T ⊢
      exact items_at T (Q.length + 6) (by rw [List.getElem?_append_right (by omega), Nat.add_sub_cancel_left]; rfl) (HG4.out.good (by simp)) (by decide) (vX 4 (by decide)) Q4 HQ4.out.symm
    have KA : Hid (∀ W (Q : List Res), Sep w (Q ++ b11_14) W → SeesV W (.slice a10 mm c10) (P ++ R)) := Lib.hid fun W Q T => by rw [Hb11_14.out] at T; exact T.seesV (Q.length + 0) (by rw [List.getElem?_append_right (by omega), Nat.add_sub_cancel_left]; rfl)
    replace S := Lib.hid S
    clear hb11_14
    go_upto_region 11 with fail
    have S1 : Sep w ([] ++ b11_14) (wc) := by rw [Hb11_14.out]; exact S.out
    clear S
    refine regionP 30 19 (E := [emptyR]) (base := b11_14) (Sep.putE S1) ?_
    clear S1
    refine quietP (hy := fun E Wx hSw => by ((refine and5 (Cb11_14_3.out _ _ hSw) fun u0 u1 u2 u3 u4 => ?_); go_simp; exact ⟨rfl, hSw⟩)) (h := ?_)
    simp only [Act.put, pa]; try dsimp only [List.set]
    refine quietP (hy := fun E Wx hSw => by (go_simp; exact symCall (K11_1.out _ _ hSw))) (h := ?_)
    simp only [Act.put, pa]; try dsimp only [List.set]
    iterate 2 (refine quietP ?_; simp only [Act.put, pa]; try dsimp only [List.set])
    refine quietP (hy := fun E Wx hSw => by ((refine and5 (Cb11_14_4.out _ _ hSw) fun u0 u1 u2 u3 u4 => ?_); go_simp; exact ⟨rfl, hSw⟩)) (h := ?_)
    simp only [Act.put, pa]; try dsimp only [List.set]
    refine quietP (hy := fun E Wx hSw => by (go_simp; exact symCall (K11_5.out _ _ hSw))) (h := ?_)
    simp only [Act.put, pa]; try dsimp only [List.set]
    iterate 4 (refine quietP ?_; simp only [Act.put, pa]; try dsimp only [List.set])
    refine quietP (hy := fun E Wx hSw => by ((refine and3 (Cb11_14_2.out _ _ hSw) fun u0 u1 u2 => ?_); go_simp; exact ⟨rfl, hSw⟩)) (h := ?_)
    simp only [Act.put, pa]; try dsimp only [List.set]
    refine quietP (hy := fun E Wx hSw => by (go_simp; exact symCall (K11_11.out _ _ hSw))) (h := ?_)
    simp only [Act.put, pa]; try dsimp only [List.set]
    refine quietP ?_
    simp only [Act.put, pa]; try dsimp only [List.set]
    refine quietP (hy := fun E Wx hSw => by ((refine and3 (Cb11_14_0.out _ _ hSw) fun u0 u1 u2 => ?_); go_simp; exact ⟨rfl, hSw⟩)) (h := ?_)
    simp only [Act.put, pa]; try dsimp only [List.set]
    refine quietP (hy := fun E Wx hSw => by (go_simp; exact symCall (K11_14.out _ _ hSw))) (h := ?_)
    simp only [Act.put, pa]; try dsimp only [List.set]
    iterate 3 (refine quietP ?_; simp only [Act.put, pa]; try dsimp only [List.set])
    refine quietP (hy := fun E Wx hSw => by ((refine and3 (Cb11_14_2.out _ _ hSw) fun u0 u1 u2 => ?_); go_simp; exact ⟨rfl, hSw⟩)) (h := ?_)
    simp only [Act.put, pa]; try dsimp only [List.set]
    refine quietP (hy := fun E Wx hSw => by ((refine and3 (Cb11_14_0.out _ _ hSw) fun u0 u1 u2 => ?_); go_simp; exact ⟨rfl, hSw⟩)) (h := ?_)
    simp only [Act.put, pa]; try dsimp only [List.set]
    iterate 3 (refine quietP ?_; simp only [Act.put, pa]; try dsimp only [List.set])
    refine quietP (hy := fun E Wx hSw => by ((refine and3 (Cb11_14_2.out _ _ hSw) fun u0 u1 u2 => ?_); go_simp; exact ⟨rfl, hSw⟩)) (h := ?_)
    simp only [Act.put, pa]; try dsimp only [List.set]
    refine quietP (hy := fun E Wx hSw => by ((refine and3 (Cb11_14_1.out _ _ hSw) fun u0 u1 u2 => ?_); go_simp; exact ⟨rfl, hSw⟩)) (h := ?_)
    simp only [Act.put, pa]; try dsimp only [List.set]
    iterate 4 (refine quietP ?_; simp only [Act.put, pa]; try dsimp only [List.set])
    refine quietP (hy := fun E Wx hSw => by ((refine and3 (Cb11_14_2.out _ _ hSw) fun u0 u1 u2 => ?_); go_simp; exact ⟨rfl, hSw⟩)) (h := ?_)
    simp only [Act.put, pa]; try dsimp only [List.set]
    refine endP ?_
    refine quietS 31 ?_
    simp only [Act.put, pa]; try dsimp only [List.set]
    refine readyS [30] ?_
    refine stepS (fun v E1 => ∃ (va_16_1 : Option Addr) (vc_16_1 : Nat), v = .slice va_16_1 Q4.length vc_16_1 ∧ E1 = [valsR (.slice va_16_1 Q4.length vc_16_1) Q4]) (h1 := fun Wx hSw => by (go_simp; refine symCallN ?_; exact (KI11_30.out _ _ hSw).mono fun e W' ⟨a, c, e1, e2⟩ => ⟨_, _, e1, ⟨a, c, rfl, rfl⟩, e2.into 0 rfl⟩)) (h2 := fun v E1 hvE => ?_) (hs := nilS)
    obtain ⟨va_16_1, vc_16_1, rfl, rfl⟩ := hvE
    simp only [Act.put, pa]; try dsimp only [List.set]
    refine readyS [32] ?_
    refine detS (.bool true) [valsR (.slice va_16_1 Q4.length vc_16_1) Q4] (h1 := fun Wx hSw => by (go_simp; refine symCall ?_; exact same_at hSw (hSw.seesV 0 rfl) (KA.out _ _ hSw) HQ4.out)) (h2 := ?_) (hs := nilS)
    simp only [Act.put, pa]; try dsimp only [List.set]
    refine quietS 33 ?_
    simp only [Act.put, pa]; try dsimp only [List.set]
    refine quietS 34 ?_
    simp only [Act.put, pa]; try dsimp only [List.set]
    refine quietS 35 ?_
    simp only [Act.put, pa]; try dsimp only [List.set]
    refine quietS 36 ?_
    simp only [Act.put, pa]; try dsimp only [List.set]
    refine quietS 37 (hy := fun E Wx hSw => by ((refine and3 (Cb11_14_0.out _ _ hSw) fun u0 u1 u2 => ?_); go_simp; exact ⟨rfl, hSw⟩)) (h := ?_)
    simp only [Act.put, pa]; try dsimp only [List.set]
    refine quietS 38 (hy := fun E Wx hSw => by (go_simp; exact symCall (K11_38.out _ _ hSw))) (h := ?_)
    simp only [Act.put, pa]; try dsimp only [List.set]
    refine quietS 39 ?_
    simp only [Act.put, pa]; try dsimp only [List.set]
    refine quietS 40 ?_
    simp only [Act.put, pa]; try dsimp only [List.set]
    refine quietS 41 ?_
    simp only [Act.put, pa]; try dsimp only [List.set]
    refine quietS 42 ?_
    simp only [Act.put, pa]; try dsimp only [List.set]
    refine quietS 43 ?_
    simp only [Act.put, pa]; try dsimp only [List.set]
    refine quietS 44 (hy := fun E Wx hSw => by ((refine and3 (Cb11_14_1.out _ _ hSw) fun u0 u1 u2 => ?_); go_simp; exact ⟨rfl, hSw⟩)) (h := ?_)
    simp only [Act.put, pa]; try dsimp only [List.set]
    refine quietS 45 (hy := fun E Wx hSw => by (go_simp; exact symCall (K11_45.out _ _ hSw))) (h := ?_)
    simp only [Act.put, pa]; try dsimp only [List.set]
    refine quietS 46 ?_
    simp only [Act.put, pa]; try dsimp only [List.set]
    refine quietS 47 ?_
    simp only [Act.put, pa]; try dsimp only [List.set]
    refine quietS 48 ?_
    simp only [Act.put, pa]; try dsimp only [List.set]
    refine doneS (h := fun w16 S => ?_)
    replace S : Sep w (valsR (.slice va_16_1 Q4.length vc_16_1) Q4 :: valsR (.slice a10 mm c10) (P ++ R) :: valsR (.slice a11 R.length c11) R :: boxZ qa91 :: boxN qb92 typeError :: boxW qa82 4 4 ⟨#[]⟩ :: boxE qb83 :: heapR h (HX [rowO 2 (by decide) P, rowO 2 (by decide) R, rowO 1 (by decide) R, rowO 2 (by decide) (P ++ R)]) :: boxW qO2 4 3 ⟨#[]⟩ :: boxW qY2 4 2 ⟨#[]⟩ :: boxW qX2 4 1 ⟨#[]⟩ :: []) w16 := by rw [Hb11_14.out] at S; exact S
    clear Hb11_14 Kb11_14 K11_1 K11_5 K11_11 K11_14 K11_38 K11_45 KI11_30 KA Cb11_14_0 Cb11_14_1 Cb11_14_2 Cb11_14_3 Cb11_14_4
    replace S : Sep w ([valsR (.slice va_16_1 Q4.length vc_16_1) Q4, valsR (.slice a10 mm c10) (P ++ R), valsR (.slice a11 R.length c11) R, boxZ qa91, boxN qb92 typeError, boxE qb83, boxW qO2 4 3 ⟨#[]⟩, boxW qX2 4 1 ⟨#[]⟩, boxW qY2 4 2 ⟨#[]⟩, boxW qa82 4 4 ⟨#[]⟩, heapR h (HX [rowO 2 (by decide) P, rowO 2 (by decide) R, rowO 1 (by decide) R, rowO 2 (by decide) (P ++ R)])] ++ []) (w16) := by
      refine (show Sep w ([valsR (.slice va_16_1 Q4.length vc_16_1) Q4, valsR (.slice a10 mm c10) (P ++ R), valsR (.slice a11 R.length c11) R, boxZ qa91, boxN qb92 typeError, boxW qa82 4 4 ⟨#[]⟩, boxE qb83, heapR h (HX [rowO 2 (by decide) P, rowO 2 (by decide) R, rowO 1 (by decide) R, rowO 2 (by decide) (P ++ R)]), boxW qO2 4 3 ⟨#[]⟩, boxW qY2 4 2 ⟨#[]⟩, boxW qX2 4 1 ⟨#[]⟩] ++ []) _ from S).perm ?_
      exact List.Perm.append_right [] (perm_of (l := [valsR (.slice va_16_1 Q4.length vc_16_1) Q4, valsR (.slice a10 mm c10) (P ++ R), valsR (.slice a11 R.length c11) R, boxZ qa91, boxN qb92 typeError, boxW qa82 4 4 ⟨#[]⟩, boxE qb83, heapR h (HX [rowO 2 (by decide) P, rowO 2 (by decide) R, rowO 1 (by decide) R, rowO 2 (by decide) (P ++ R)]), boxW qO2 4 3 ⟨#[]⟩, boxW qY2 4 2 ⟨#[]⟩, boxW qX2 4 1 ⟨#[]⟩]) [0, 1, 2, 3, 4, 6, 8, 10, 9, 5, 7] (by show (List.range' 0 11).Perm [0, 1, 2, 3, 4, 6, 8, 10, 9, 5, 7]; decide) (by rfl))
    iterate 7 replace S := S.tail
    replace S : Sep w (boxW qX2 4 1 ⟨#[]⟩ :: boxW qY2 4 2 ⟨#[]⟩ :: boxW qa82 4 4 ⟨#[]⟩ :: heapR h (HX [rowO 2 (by decide) P, rowO 2 (by decide) R, rowO 1 (by decide) R, rowO 2 (by decide) (P ++ R)]) :: []) (w16) := S
    obtain ⟨m7, hm7, h70, h77⟩ := and7 HNB.out
    have HM7 := Lib.hid hm7
    clear hm7
    obtain ⟨m, hm⟩ : ∃ m : Int, m = m7 - 2 := ⟨_, rfl⟩
    have hw7 : IntKind.i64.wrap m7 = m7 := IntWalk.i64_in _ (by omega)
    have hw8 : IntKind.i64.wrap (m7 - 2) = m := by rw [hm]; exact IntWalk.i64_in _ (by omega)
    have hm1 : -2 ≤ m ∧ m ≤ 5 := by omega
    have HMI := Lib.hid (show okI m from okI_of (by omega))
    have HM1 := Lib.hid hm1
    clear hm h70 h77 hm1
    refine named (boxW qX2 4 1 ⟨#[]⟩ :: boxW qY2 4 2 ⟨#[]⟩ :: boxW qa82 4 4 ⟨#[]⟩ :: heapR h (HX [rowO 2 (by decide) P, rowO 2 (by decide) R, rowO 1 (by decide) R, rowO 2 (by decide) (P ++ R)]) :: [] : List Res) fun b13_16 hb13_16 => ?_
    have Hb13_16 := Lib.hid hb13_16
    have Kb13_16 : Hid (∀ W (Q : List Res), Sep w (Q ++ b13_16) W → True) := Lib.hid fun W Q T => by
      rw [hb13_16] at T
      trivial
    replace S := Lib.hid S
    clear hb13_16
    go_upto_region 13 with fail
    have S1 : Sep w ([] ++ b13_16) (w16) := by rw [Hb13_16.out]; exact S.out
    clear S
    refine regionL (E := []) (base := b13_16) S1 ?_
    clear S1
    refine quietL ?_
    simp only [Act.put, pa]; try dsimp only [List.set]
    refine quietL (v := .int .i8 m7) (hy := fun E Wx hSw => by (rw [← HM7.out]; go_simp; exact ⟨rfl, hSw⟩)) (h := ?_)
    simp only [Act.put, pa]; try dsimp only [List.set]
    iterate 3 (refine quietL ?_; simp only [Act.put, pa]; try dsimp only [List.set])
    intro w18 S
    replace S : Sep w (boxW qX2 4 1 ⟨#[]⟩ :: boxW qY2 4 2 ⟨#[]⟩ :: boxW qa82 4 4 ⟨#[]⟩ :: heapR h (HX [rowO 2 (by decide) P, rowO 2 (by decide) R, rowO 1 (by decide) R, rowO 2 (by decide) (P ++ R)]) :: []) w18 := by rw [Hb13_16.out] at S; exact S
    clear Hb13_16 Kb13_16
    clear hw7 hw8
    have HML := Lib.hid (show m.toNat * P.length ≤ 40 from by
      have h1 : m.toNat ≤ 5 := by have := HM1.out; omega
      exact Nat.le_trans (Nat.mul_le_mul h1 H8P.out) (by decide))
    obtain ⟨Q5, hQ5⟩ : ∃ Q, Q = repl m.toNat P := ⟨_, rfl⟩
    have HQ5 := Lib.hid hQ5
    clear hQ5
    have HG5 : Hid (HXG [rowO 2 (by decide) P, rowO 2 (by decide) R, rowO 1 (by decide) R, rowO 2 (by decide) (P ++ R), rowO 2 (by decide) (repl m.toNat P)]) := Lib.hid (HG4.out.snoc (by rw [repl_len]; exact HML.out))
    replace S : Sep w (heapR h (HX [rowO 2 (by decide) P, rowO 2 (by decide) R, rowO 1 (by decide) R, rowO 2 (by decide) (P ++ R)]) :: boxW qX2 4 1 ⟨#[]⟩ :: boxW qY2 4 2 ⟨#[]⟩ :: boxW qa82 4 4 ⟨#[]⟩ :: []) (w18) := by
      refine (show Sep w ([boxW qX2 4 1 ⟨#[]⟩, boxW qY2 4 2 ⟨#[]⟩, boxW qa82 4 4 ⟨#[]⟩, heapR h (HX [rowO 2 (by decide) P, rowO 2 (by decide) R, rowO 1 (by decide) R, rowO 2 (by decide) (P ++ R)])] ++ []) _ from S).perm ?_
      exact List.Perm.append_right [] (perm_of (l := [boxW qX2 4 1 ⟨#[]⟩, boxW qY2 4 2 ⟨#[]⟩, boxW qa82 4 4 ⟨#[]⟩, heapR h (HX [rowO 2 (by decide) P, rowO 2 (by decide) R, rowO 1 (by decide) R, rowO 2 (by decide) (P ++ R)])]) [3, 0, 1, 2] (by show (List.range' 0 4).Perm [3, 0, 1, 2]; decide) (by rfl))
    refine named (boxW qX2 4 1 ⟨#[]⟩ :: boxW qY2 4 2 ⟨#[]⟩ :: boxW qa82 4 4 ⟨#[]⟩ :: [] : List Res) fun b14_18 hb14_18 => ?_
    have Hb14_18 := Lib.hid hb14_18
    have Kb14_18 : Hid (∀ W (Q : List Res), Sep w (Q ++ b14_18) W → True) := Lib.hid fun W Q T => by
      rw [hb14_18] at T
      trivial
    have Cb14_18_0 : Hid (∀ W (Q : List Res), Sep w (Q ++ b14_18) W → W.cell? ⟨qX2, 0, none⟩ = some (.int .i64 4) ∧ W.cell? ⟨qX2, 1, none⟩ = some (.int .i64 1) ∧ W.cell? ⟨qX2, 2, none⟩ = some (.string ⟨#[]⟩)) := Lib.hid fun W Q T => by
      rw [hb14_18] at T
      have i0 := T.box (b := qX2) (o := objW 4 1 ⟨#[]⟩) (Q.length + 0) (by rw [List.getElem?_append_right (by omega), Nat.add_sub_cancel_left]; rfl)
      exact ⟨cellAt i0 0 rfl, cellAt i0 1 rfl, cellAt i0 2 rfl⟩
    have K14_3 : Hid (∀ W (Q : List Res), Sep w (Q ++ b14_18) W → Calls Tryz.prog 16 #[.int .i64 m] W fun e W' => e = .returned (.agg #[.int .i64 2, .int .i64 m, .string ⟨#[]⟩]) ∧ Sep w (Q ++ b14_18) W') := Lib.hid fun W Q T => by
      exact (lnum_ok W m).mono fun e W' ⟨e1, e2⟩ => ⟨e1, T.later e2⟩
    replace S := Lib.hid S
    clear hb14_18
    go_upto_region 14 with fail
    go_cut [23, 24] (fun s23 s24 wx => ∃ qq0_14 qq1_14, s23 = .pointer (some ⟨qq0_14, 0, none⟩) ∧ s24 = .pointer (some ⟨qq1_14, 0, none⟩) ∧ Sep w ([boxW qq0_14 4 5 ⟨#[]⟩, boxE qq1_14, heapR h (HX [rowO 2 (by decide) P, rowO 2 (by decide) R, rowO 1 (by decide) R, rowO 2 (by decide) (P ++ R), rowO 2 (by decide) (repl m.toNat P)])] ++ b14_18) wx)
    case first =>
      have S1 : Sep w ([heapR h (HX [rowO 2 (by decide) P, rowO 2 (by decide) R, rowO 1 (by decide) R, rowO 2 (by decide) (P ++ R)])] ++ b14_18) (w18) := by rw [Hb14_18.out]; exact S.out
      clear S
      refine regionP 4 8 (E := [emptyR, emptyR, heapR h (HX [rowO 2 (by decide) P, rowO 2 (by decide) R, rowO 1 (by decide) R, rowO 2 (by decide) (P ++ R)])]) (base := b14_18) (Sep.putE (Sep.putE S1)) ?_
      clear S1
      refine quietP ?_
      simp only [Act.put, pa]; try dsimp only [List.set]
      refine quietP (hy := fun E Wx hSw => by ((refine and3 (Cb14_18_0.out _ _ hSw) fun u0 u1 u2 => ?_); go_simp; exact ⟨rfl, hSw⟩)) (h := ?_)
      simp only [Act.put, pa]; try dsimp only [List.set]
      refine quietP ?_
      simp only [Act.put, pa]; try dsimp only [List.set]
      refine quietP (hy := fun E Wx hSw => by (go_simp; exact symCall (K14_3.out _ _ hSw))) (h := ?_)
      simp only [Act.put, pa]; try dsimp only [List.set]
      refine endP ?_
      refine readyS [4, 8, 9] ?_
      refine detS (.tuple #[.agg #[.int .i64 4, .int .i64 5, .string ⟨#[]⟩], excZ]) [emptyR, emptyR, heapR h (HX [rowO 2 (by decide) P, rowO 2 (by decide) R, rowO 1 (by decide) R, rowO 2 (by decide) (P ++ R), rowO 2 (by decide) (repl m.toNat P)])] (h1 := fun Wx hSw => by (go_simp; refine symCall ?_; exact bin_mul_row hSw 2 rfl (HG4.out.good (by simp)) (by decide) (vX 1 (by decide)) (vI m HMI.out) rfl rfl (show m.toNat * P.length ≤ 4096 from Nat.le_trans HML.out (by decide)))) (h2 := ?_) (hs := ?_)
      · simp only [Act.put, pa]; try dsimp only [List.set]
        refine quietS 5 ?_
        simp only [Act.put, pa]; try dsimp only [List.set]
        refine quietS 6 ?_
        simp only [Act.put, pa]; try dsimp only [List.set]
        refine quietS 7 ?_
        simp only [Act.put, pa]; try dsimp only [List.set]
        refine readyS [8, 9] ?_
        refine allocS 0 rfl (fun q => .pointer (some ⟨q, 0, none⟩)) (.cells #[.int .i64 0, .int .i64 0, .string ⟨#[]⟩] 29) (h1 := fun Wx => by go_simp) (h2 := fun qa142 => ?_) (hs := ?_)
        · simp only [Act.put, pa]; try dsimp only [List.set]
          try simp only [List.set_cons_zero, List.set_cons_succ]
          refine readyS [9] ?_
          refine allocS 1 rfl (fun q => .pointer (some ⟨q, 0, none⟩)) (.cells #[.string ⟨#[]⟩, .int .i64 0, .int .i64 0, .string ⟨#[]⟩, .bool false] 38) (h1 := fun Wx => by go_simp) (h2 := fun qb143 => ?_) (hs := nilS)
          simp only [Act.put, pa]; try dsimp only [List.set]
          try simp only [List.set_cons_zero, List.set_cons_succ]
          refine readyS [10] ?_
          refine detS undef [boxW qa142 4 5 ⟨#[]⟩, boxE qb143, heapR h (HX [rowO 2 (by decide) P, rowO 2 (by decide) R, rowO 1 (by decide) R, rowO 2 (by decide) (P ++ R), rowO 2 (by decide) (repl m.toNat P)])] (h1 := fun Wx hSw => by (have hz := hSw.box (b := qa142) (o := objZ) 0 rfl; refine useZ3 hz fun z0 z1 z2 y0 y1 y2 => ?_; go_simp; exact ⟨rfl, hSw.set3 0 rfl (.int .i64 4) (.int .i64 5) (.string ⟨#[]⟩)⟩)) (h2 := ?_) (hs := nilS)
          simp only [Act.put, pa]; try dsimp only [List.set]
          refine readyS [11] ?_
          refine detS undef [boxW qa142 4 5 ⟨#[]⟩, boxE qb143, heapR h (HX [rowO 2 (by decide) P, rowO 2 (by decide) R, rowO 1 (by decide) R, rowO 2 (by decide) (P ++ R), rowO 2 (by decide) (repl m.toNat P)])] (h1 := fun Wx hSw => by (have hz := hSw.box (b := qb143) (o := objE) 1 rfl; refine useZ5 hz fun z0 z1 z2 z3 z4 y0 y1 y2 y3 y4 => ?_; go_simp; exact ⟨rfl, hSw.set5 1 rfl (.string ⟨#[]⟩) (.int .i64 0) (.int .i64 0) (.string ⟨#[]⟩) (.bool false)⟩)) (h2 := ?_) (hs := nilS)
          simp only [Act.put, pa]; try dsimp only [List.set]
          refine doneS (h := fun w20 S => ?_)
          go_wp2_with fail
          as_aux_lemma => (go_meet; exact ⟨_, _, rfl, rfl, S⟩)
        refine allocS 1 rfl (fun q => .pointer (some ⟨q, 0, none⟩)) (.cells #[.string ⟨#[]⟩, .int .i64 0, .int .i64 0, .string ⟨#[]⟩, .bool false] 38) (h1 := fun Wx => by go_simp) (h2 := fun qb146 => ?_) (hs := ?_)
        · simp only [Act.put, pa]; try dsimp only [List.set]
          try simp only [List.set_cons_zero, List.set_cons_succ]
          refine readyS [8] ?_
          refine allocS 0 rfl (fun q => .pointer (some ⟨q, 0, none⟩)) (.cells #[.int .i64 0, .int .i64 0, .string ⟨#[]⟩] 29) (h1 := fun Wx => by go_simp) (h2 := fun qa147 => ?_) (hs := nilS)
          simp only [Act.put, pa]; try dsimp only [List.set]
          try simp only [List.set_cons_zero, List.set_cons_succ]
          refine readyS [10] ?_
          refine detS undef [boxW qa147 4 5 ⟨#[]⟩, boxE qb146, heapR h (HX [rowO 2 (by decide) P, rowO 2 (by decide) R, rowO 1 (by decide) R, rowO 2 (by decide) (P ++ R), rowO 2 (by decide) (repl m.toNat P)])] (h1 := fun Wx hSw => by (have hz := hSw.box (b := qa147) (o := objZ) 0 rfl; refine useZ3 hz fun z0 z1 z2 y0 y1 y2 => ?_; go_simp; exact ⟨rfl, hSw.set3 0 rfl (.int .i64 4) (.int .i64 5) (.string ⟨#[]⟩)⟩)) (h2 := ?_) (hs := nilS)
          simp only [Act.put, pa]; try dsimp only [List.set]
          refine readyS [11] ?_
          refine detS undef [boxW qa147 4 5 ⟨#[]⟩, boxE qb146, heapR h (HX [rowO 2 (by decide) P, rowO 2 (by decide) R, rowO 1 (by decide) R, rowO 2 (by decide) (P ++ R), rowO 2 (by decide) (repl m.toNat P)])] (h1 := fun Wx hSw => by (have hz := hSw.box (b := qb146) (o := objE) 1 rfl; refine useZ5 hz fun z0 z1 z2 z3 z4 y0 y1 y2 y3 y4 => ?_; go_simp; exact ⟨rfl, hSw.set5 1 rfl (.string ⟨#[]⟩) (.int .i64 0) (.int .i64 0) (.string ⟨#[]⟩) (.bool false)⟩)) (h2 := ?_) (hs := nilS)
          simp only [Act.put, pa]; try dsimp only [List.set]
          refine doneS (h := fun w20 S => ?_)
          go_wp2_with fail
          as_aux_lemma => (go_meet; exact ⟨_, _, rfl, rfl, S⟩)
        exact nilS
      refine allocS 0 rfl (fun q => .pointer (some ⟨q, 0, none⟩)) (.cells #[.int .i64 0, .int .i64 0, .string ⟨#[]⟩] 29) (h1 := fun Wx => by go_simp) (h2 := fun qa1410 => ?_) (hs := ?_)
      · simp only [Act.put, pa]; try dsimp only [List.set]
        try simp only [List.set_cons_zero, List.set_cons_succ]
        refine readyS [4, 9] ?_
        refine detS (.tuple #[.agg #[.int .i64 4, .int .i64 5, .string ⟨#[]⟩], excZ]) [boxZ qa1410, emptyR, heapR h (HX [rowO 2 (by decide) P, rowO 2 (by decide) R, rowO 1 (by decide) R, rowO 2 (by decide) (P ++ R), rowO 2 (by decide) (repl m.toNat P)])] (h1 := fun Wx hSw => by (go_simp; refine symCall ?_; exact bin_mul_row hSw 2 rfl (HG4.out.good (by simp)) (by decide) (vX 1 (by decide)) (vI m HMI.out) rfl rfl (show m.toNat * P.length ≤ 4096 from Nat.le_trans HML.out (by decide)))) (h2 := ?_) (hs := ?_)
        · simp only [Act.put, pa]; try dsimp only [List.set]
          refine quietS 5 ?_
          simp only [Act.put, pa]; try dsimp only [List.set]
          refine quietS 6 ?_
          simp only [Act.put, pa]; try dsimp only [List.set]
          refine quietS 7 ?_
          simp only [Act.put, pa]; try dsimp only [List.set]
          refine readyS [9] ?_
          refine allocS 1 rfl (fun q => .pointer (some ⟨q, 0, none⟩)) (.cells #[.string ⟨#[]⟩, .int .i64 0, .int .i64 0, .string ⟨#[]⟩, .bool false] 38) (h1 := fun Wx => by go_simp) (h2 := fun qb1412 => ?_) (hs := nilS)
          simp only [Act.put, pa]; try dsimp only [List.set]
          try simp only [List.set_cons_zero, List.set_cons_succ]
          refine readyS [10] ?_
          refine detS undef [boxW qa1410 4 5 ⟨#[]⟩, boxE qb1412, heapR h (HX [rowO 2 (by decide) P, rowO 2 (by decide) R, rowO 1 (by decide) R, rowO 2 (by decide) (P ++ R), rowO 2 (by decide) (repl m.toNat P)])] (h1 := fun Wx hSw => by (have hz := hSw.box (b := qa1410) (o := objZ) 0 rfl; refine useZ3 hz fun z0 z1 z2 y0 y1 y2 => ?_; go_simp; exact ⟨rfl, hSw.set3 0 rfl (.int .i64 4) (.int .i64 5) (.string ⟨#[]⟩)⟩)) (h2 := ?_) (hs := nilS)
          simp only [Act.put, pa]; try dsimp only [List.set]
          refine readyS [11] ?_
          refine detS undef [boxW qa1410 4 5 ⟨#[]⟩, boxE qb1412, heapR h (HX [rowO 2 (by decide) P, rowO 2 (by decide) R, rowO 1 (by decide) R, rowO 2 (by decide) (P ++ R), rowO 2 (by decide) (repl m.toNat P)])] (h1 := fun Wx hSw => by (have hz := hSw.box (b := qb1412) (o := objE) 1 rfl; refine useZ5 hz fun z0 z1 z2 z3 z4 y0 y1 y2 y3 y4 => ?_; go_simp; exact ⟨rfl, hSw.set5 1 rfl (.string ⟨#[]⟩) (.int .i64 0) (.int .i64 0) (.string ⟨#[]⟩) (.bool false)⟩)) (h2 := ?_) (hs := nilS)
          simp only [Act.put, pa]; try dsimp only [List.set]
          refine doneS (h := fun w20 S => ?_)
          go_wp2_with fail
          as_aux_lemma => (go_meet; exact ⟨_, _, rfl, rfl, S⟩)
        refine allocS 1 rfl (fun q => .pointer (some ⟨q, 0, none⟩)) (.cells #[.string ⟨#[]⟩, .int .i64 0, .int .i64 0, .string ⟨#[]⟩, .bool false] 38) (h1 := fun Wx => by go_simp) (h2 := fun qb1415 => ?_) (hs := ?_)
        · simp only [Act.put, pa]; try dsimp only [List.set]
          try simp only [List.set_cons_zero, List.set_cons_succ]
          refine readyS [4] ?_
          refine detS (.tuple #[.agg #[.int .i64 4, .int .i64 5, .string ⟨#[]⟩], excZ]) [boxZ qa1410, boxE qb1415, heapR h (HX [rowO 2 (by decide) P, rowO 2 (by decide) R, rowO 1 (by decide) R, rowO 2 (by decide) (P ++ R), rowO 2 (by decide) (repl m.toNat P)])] (h1 := fun Wx hSw => by (go_simp; refine symCall ?_; exact bin_mul_row hSw 2 rfl (HG4.out.good (by simp)) (by decide) (vX 1 (by decide)) (vI m HMI.out) rfl rfl (show m.toNat * P.length ≤ 4096 from Nat.le_trans HML.out (by decide)))) (h2 := ?_) (hs := nilS)
          simp only [Act.put, pa]; try dsimp only [List.set]
          refine quietS 5 ?_
          simp only [Act.put, pa]; try dsimp only [List.set]
          refine quietS 6 ?_
          simp only [Act.put, pa]; try dsimp only [List.set]
          refine quietS 7 ?_
          simp only [Act.put, pa]; try dsimp only [List.set]
          refine readyS [10] ?_
          refine detS undef [boxW qa1410 4 5 ⟨#[]⟩, boxE qb1415, heapR h (HX [rowO 2 (by decide) P, rowO 2 (by decide) R, rowO 1 (by decide) R, rowO 2 (by decide) (P ++ R), rowO 2 (by decide) (repl m.toNat P)])] (h1 := fun Wx hSw => by (have hz := hSw.box (b := qa1410) (o := objZ) 0 rfl; refine useZ3 hz fun z0 z1 z2 y0 y1 y2 => ?_; go_simp; exact ⟨rfl, hSw.set3 0 rfl (.int .i64 4) (.int .i64 5) (.string ⟨#[]⟩)⟩)) (h2 := ?_) (hs := nilS)
          simp only [Act.put, pa]; try dsimp only [List.set]
          refine readyS [11] ?_
          refine detS undef [boxW qa1410 4 5 ⟨#[]⟩, boxE qb1415, heapR h (HX [rowO 2 (by decide) P, rowO 2 (by decide) R, rowO 1 (by decide) R, rowO 2 (by decide) (P ++ R), rowO 2 (by decide) (repl m.toNat P)])] (h1 := fun Wx hSw => by (have hz := hSw.box (b := qb1415) (o := objE) 1 rfl; refine useZ5 hz fun z0 z1 z2 z3 z4 y0 y1 y2 y3 y4 => ?_; go_simp; exact ⟨rfl, hSw.set5 1 rfl (.string ⟨#[]⟩) (.int .i64 0) (.int .i64 0) (.string ⟨#[]⟩) (.bool false)⟩)) (h2 := ?_) (hs := nilS)
          simp only [Act.put, pa]; try dsimp only [List.set]
          refine doneS (h := fun w20 S => ?_)
          go_wp2_with fail
          as_aux_lemma => (go_meet; exact ⟨_, _, rfl, rfl, S⟩)
        exact nilS
      refine allocS 1 rfl (fun q => .pointer (some ⟨q, 0, none⟩)) (.cells #[.string ⟨#[]⟩, .int .i64 0, .int .i64 0, .string ⟨#[]⟩, .bool false] 38) (h1 := fun Wx => by go_simp) (h2 := fun qb1419 => ?_) (hs := ?_)
      · simp only [Act.put, pa]; try dsimp only [List.set]
        try simp only [List.set_cons_zero, List.set_cons_succ]
        refine readyS [4, 8] ?_
        refine detS (.tuple #[.agg #[.int .i64 4, .int .i64 5, .string ⟨#[]⟩], excZ]) [emptyR, boxE qb1419, heapR h (HX [rowO 2 (by decide) P, rowO 2 (by decide) R, rowO 1 (by decide) R, rowO 2 (by decide) (P ++ R), rowO 2 (by decide) (repl m.toNat P)])] (h1 := fun Wx hSw => by (go_simp; refine symCall ?_; exact bin_mul_row hSw 2 rfl (HG4.out.good (by simp)) (by decide) (vX 1 (by decide)) (vI m HMI.out) rfl rfl (show m.toNat * P.length ≤ 4096 from Nat.le_trans HML.out (by decide)))) (h2 := ?_) (hs := ?_)
        · simp only [Act.put, pa]; try dsimp only [List.set]
          refine quietS 5 ?_
          simp only [Act.put, pa]; try dsimp only [List.set]
          refine quietS 6 ?_
          simp only [Act.put, pa]; try dsimp only [List.set]
          refine quietS 7 ?_
          simp only [Act.put, pa]; try dsimp only [List.set]
          refine readyS [8] ?_
          refine allocS 0 rfl (fun q => .pointer (some ⟨q, 0, none⟩)) (.cells #[.int .i64 0, .int .i64 0, .string ⟨#[]⟩] 29) (h1 := fun Wx => by go_simp) (h2 := fun qa1421 => ?_) (hs := nilS)
          simp only [Act.put, pa]; try dsimp only [List.set]
          try simp only [List.set_cons_zero, List.set_cons_succ]
          refine readyS [10] ?_
          refine detS undef [boxW qa1421 4 5 ⟨#[]⟩, boxE qb1419, heapR h (HX [rowO 2 (by decide) P, rowO 2 (by decide) R, rowO 1 (by decide) R, rowO 2 (by decide) (P ++ R), rowO 2 (by decide) (repl m.toNat P)])] (h1 := fun Wx hSw => by (have hz := hSw.box (b := qa1421) (o := objZ) 0 rfl; refine useZ3 hz fun z0 z1 z2 y0 y1 y2 => ?_; go_simp; exact ⟨rfl, hSw.set3 0 rfl (.int .i64 4) (.int .i64 5) (.string ⟨#[]⟩)⟩)) (h2 := ?_) (hs := nilS)
          simp only [Act.put, pa]; try dsimp only [List.set]
          refine readyS [11] ?_
          refine detS undef [boxW qa1421 4 5 ⟨#[]⟩, boxE qb1419, heapR h (HX [rowO 2 (by decide) P, rowO 2 (by decide) R, rowO 1 (by decide) R, rowO 2 (by decide) (P ++ R), rowO 2 (by decide) (repl m.toNat P)])] (h1 := fun Wx hSw => by (have hz := hSw.box (b := qb1419) (o := objE) 1 rfl; refine useZ5 hz fun z0 z1 z2 z3 z4 y0 y1 y2 y3 y4 => ?_; go_simp; exact ⟨rfl, hSw.set5 1 rfl (.string ⟨#[]⟩) (.int .i64 0) (.int .i64 0) (.string ⟨#[]⟩) (.bool false)⟩)) (h2 := ?_) (hs := nilS)
          simp only [Act.put, pa]; try dsimp only [List.set]
          refine doneS (h := fun w20 S => ?_)
          go_wp2_with fail
          as_aux_lemma => (go_meet; exact ⟨_, _, rfl, rfl, S⟩)
        refine allocS 0 rfl (fun q => .pointer (some ⟨q, 0, none⟩)) (.cells #[.int .i64 0, .int .i64 0, .string ⟨#[]⟩] 29) (h1 := fun Wx => by go_simp) (h2 := fun qa1424 => ?_) (hs := ?_)
        · simp only [Act.put, pa]; try dsimp only [List.set]
          try simp only [List.set_cons_zero, List.set_cons_succ]
          refine readyS [4] ?_
          refine detS (.tuple #[.agg #[.int .i64 4, .int .i64 5, .string ⟨#[]⟩], excZ]) [boxZ qa1424, boxE qb1419, heapR h (HX [rowO 2 (by decide) P, rowO 2 (by decide) R, rowO 1 (by decide) R, rowO 2 (by decide) (P ++ R), rowO 2 (by decide) (repl m.toNat P)])] (h1 := fun Wx hSw => by (go_simp; refine symCall ?_; exact bin_mul_row hSw 2 rfl (HG4.out.good (by simp)) (by decide) (vX 1 (by decide)) (vI m HMI.out) rfl rfl (show m.toNat * P.length ≤ 4096 from Nat.le_trans HML.out (by decide)))) (h2 := ?_) (hs := nilS)
          simp only [Act.put, pa]; try dsimp only [List.set]
          refine quietS 5 ?_
          simp only [Act.put, pa]; try dsimp only [List.set]
          refine quietS 6 ?_
          simp only [Act.put, pa]; try dsimp only [List.set]
          refine quietS 7 ?_
          simp only [Act.put, pa]; try dsimp only [List.set]
          refine readyS [10] ?_
          refine detS undef [boxW qa1424 4 5 ⟨#[]⟩, boxE qb1419, heapR h (HX [rowO 2 (by decide) P, rowO 2 (by decide) R, rowO 1 (by decide) R, rowO 2 (by decide) (P ++ R), rowO 2 (by decide) (repl m.toNat P)])] (h1 := fun Wx hSw => by (have hz := hSw.box (b := qa1424) (o := objZ) 0 rfl; refine useZ3 hz fun z0 z1 z2 y0 y1 y2 => ?_; go_simp; exact ⟨rfl, hSw.set3 0 rfl (.int .i64 4) (.int .i64 5) (.string ⟨#[]⟩)⟩)) (h2 := ?_) (hs := nilS)
          simp only [Act.put, pa]; try dsimp only [List.set]
          refine readyS [11] ?_
          refine detS undef [boxW qa1424 4 5 ⟨#[]⟩, boxE qb1419, heapR h (HX [rowO 2 (by decide) P, rowO 2 (by decide) R, rowO 1 (by decide) R, rowO 2 (by decide) (P ++ R), rowO 2 (by decide) (repl m.toNat P)])] (h1 := fun Wx hSw => by (have hz := hSw.box (b := qb1419) (o := objE) 1 rfl; refine useZ5 hz fun z0 z1 z2 z3 z4 y0 y1 y2 y3 y4 => ?_; go_simp; exact ⟨rfl, hSw.set5 1 rfl (.string ⟨#[]⟩) (.int .i64 0) (.int .i64 0) (.string ⟨#[]⟩) (.bool false)⟩)) (h2 := ?_) (hs := nilS)
          simp only [Act.put, pa]; try dsimp only [List.set]
          refine doneS (h := fun w20 S => ?_)
          go_wp2_with fail
          as_aux_lemma => (go_meet; exact ⟨_, _, rfl, rfl, S⟩)
        exact nilS
      exact nilS
    case rest =>
      obtain ⟨qq0_14, qq1_14, rfl, rfl, S⟩ := hcut
      replace S : Sep w (boxW qq0_14 4 5 ⟨#[]⟩ :: boxE qq1_14 :: heapR h (HX [rowO 2 (by decide) P, rowO 2 (by decide) R, rowO 1 (by decide) R, rowO 2 (by decide) (P ++ R), rowO 2 (by decide) (repl m.toNat P)]) :: boxW qX2 4 1 ⟨#[]⟩ :: boxW qY2 4 2 ⟨#[]⟩ :: boxW qa82 4 4 ⟨#[]⟩ :: []) wc := by rw [Hb14_18.out] at S; exact S
      clear Hb14_18 Kb14_18 K14_3 Cb14_18_0
      have HG6 : Hid (HXG [rowO 2 (by decide) P, rowO 2 (by decide) R, rowO 1 (by decide) R, rowO 2 (by decide) (P ++ R), rowO 2 (by decide) (repl m.toNat P), rowO 2 (by decide) (repl m.toNat P)]) := Lib.hid (HG5.out.snoc (by rw [repl_len]; exact HML.out))
      replace S : Sep w (heapR h (HX [rowO 2 (by decide) P, rowO 2 (by decide) R, rowO 1 (by decide) R, rowO 2 (by decide) (P ++ R), rowO 2 (by decide) (repl m.toNat P)]) :: boxW qq0_14 4 5 ⟨#[]⟩ :: boxE qq1_14 :: boxW qX2 4 1 ⟨#[]⟩ :: boxW qY2 4 2 ⟨#[]⟩ :: boxW qa82 4 4 ⟨#[]⟩ :: []) (wc) := by
        refine (show Sep w ([boxW qq0_14 4 5 ⟨#[]⟩, boxE qq1_14, heapR h (HX [rowO 2 (by decide) P, rowO 2 (by decide) R, rowO 1 (by decide) R, rowO 2 (by decide) (P ++ R), rowO 2 (by decide) (repl m.toNat P)]), boxW qX2 4 1 ⟨#[]⟩, boxW qY2 4 2 ⟨#[]⟩, boxW qa82 4 4 ⟨#[]⟩] ++ []) _ from S).perm ?_
        exact List.Perm.append_right [] (perm_of (l := [boxW qq0_14 4 5 ⟨#[]⟩, boxE qq1_14, heapR h (HX [rowO 2 (by decide) P, rowO 2 (by decide) R, rowO 1 (by decide) R, rowO 2 (by decide) (P ++ R), rowO 2 (by decide) (repl m.toNat P)]), boxW qX2 4 1 ⟨#[]⟩, boxW qY2 4 2 ⟨#[]⟩, boxW qa82 4 4 ⟨#[]⟩]) [2, 0, 1, 3, 4, 5] (by show (List.range' 0 6).Perm [2, 0, 1, 3, 4, 5]; decide) (by rfl))
      refine named (boxW qq0_14 4 5 ⟨#[]⟩ :: boxE qq1_14 :: boxW qX2 4 1 ⟨#[]⟩ :: boxW qY2 4 2 ⟨#[]⟩ :: boxW qa82 4 4 ⟨#[]⟩ :: [] : List Res) fun b15_20 hb15_20 => ?_
      have Hb15_20 := Lib.hid hb15_20
      have Kb15_20 : Hid (∀ W (Q : List Res), Sep w (Q ++ b15_20) W → True) := Lib.hid fun W Q T => by
        rw [hb15_20] at T
        trivial
      have Cb15_20_0 : Hid (∀ W (Q : List Res), Sep w (Q ++ b15_20) W → W.cell? ⟨qX2, 0, none⟩ = some (.int .i64 4) ∧ W.cell? ⟨qX2, 1, none⟩ = some (.int .i64 1) ∧ W.cell? ⟨qX2, 2, none⟩ = some (.string ⟨#[]⟩)) := Lib.hid fun W Q T => by
        rw [hb15_20] at T
        have i0 := T.box (b := qX2) (o := objW 4 1 ⟨#[]⟩) (Q.length + 2) (by rw [List.getElem?_append_right (by omega), Nat.add_sub_cancel_left]; rfl)
        exact ⟨cellAt i0 0 rfl, cellAt i0 1 rfl, cellAt i0 2 rfl⟩
      have K15_2 : Hid (∀ W (Q : List Res), Sep w (Q ++ b15_20) W → Calls Tryz.prog 16 #[.int .i64 m] W fun e W' => e = .returned (.agg #[.int .i64 2, .int .i64 m, .string ⟨#[]⟩]) ∧ Sep w (Q ++ b15_20) W') := Lib.hid fun W Q T => by
        exact (lnum_ok W m).mono fun e W' ⟨e1, e2⟩ => ⟨e1, T.later e2⟩
      replace S := Lib.hid S
      clear hb15_20
      go_upto_region 15 with fail
      go_cut [25, 26] (fun s25 s26 wx => ∃ qq0_15 qq1_15, s25 = .pointer (some ⟨qq0_15, 0, none⟩) ∧ s26 = .pointer (some ⟨qq1_15, 0, none⟩) ∧ Sep w ([boxW qq0_15 4 6 ⟨#[]⟩, boxE qq1_15, heapR h (HX [rowO 2 (by decide) P, rowO 2 (by decide) R, rowO 1 (by decide) R, rowO 2 (by decide) (P ++ R), rowO 2 (by decide) (repl m.toNat P), rowO 2 (by decide) (repl m.toNat P)])] ++ b15_20) wx)
      case first =>
        have S1 : Sep w ([heapR h (HX [rowO 2 (by decide) P, rowO 2 (by decide) R, rowO 1 (by decide) R, rowO 2 (by decide) (P ++ R), rowO 2 (by decide) (repl m.toNat P)])] ++ b15_20) (wc) := by rw [Hb15_20.out]; exact S.out
        clear S
        refine regionP 4 8 (E := [emptyR, emptyR, heapR h (HX [rowO 2 (by decide) P, rowO 2 (by decide) R, rowO 1 (by decide) R, rowO 2 (by decide) (P ++ R), rowO 2 (by decide) (repl m.toNat P)])]) (base := b15_20) (Sep.putE (Sep.putE S1)) ?_
        clear S1
        iterate 2 (refine quietP ?_; simp only [Act.put, pa]; try dsimp only [List.set])
        refine quietP (hy := fun E Wx hSw => by (go_simp; exact symCall (K15_2.out _ _ hSw))) (h := ?_)
        simp only [Act.put, pa]; try dsimp only [List.set]
        refine quietP (hy := fun E Wx hSw => by ((refine and3 (Cb15_20_0.out _ _ hSw) fun u0 u1 u2 => ?_); go_simp; exact ⟨rfl, hSw⟩)) (h := ?_)
        simp only [Act.put, pa]; try dsimp only [List.set]
        refine endP ?_
        refine readyS [4, 8, 9] ?_
        refine detS (.tuple #[.agg #[.int .i64 4, .int .i64 6, .string ⟨#[]⟩], excZ]) [emptyR, emptyR, heapR h (HX [rowO 2 (by decide) P, rowO 2 (by decide) R, rowO 1 (by decide) R, rowO 2 (by decide) (P ++ R), rowO 2 (by decide) (repl m.toNat P), rowO 2 (by decide) (repl m.toNat P)])] (h1 := fun Wx hSw => by (go_simp; refine symCall ?_; exact bin_mul_rows hSw 2 rfl (HG5.out.good (by simp)) (by decide) (vX 1 (by decide)) (vI m HMI.out) rfl rfl (show m.toNat * P.length ≤ 4096 from Nat.le_trans HML.out (by decide)))) (h2 := ?_) (hs := ?_)
        · simp only [Act.put, pa]; try dsimp only [List.set]
          refine quietS 5 ?_
          simp only [Act.put, pa]; try dsimp only [List.set]
          refine quietS 6 ?_
          simp only [Act.put, pa]; try dsimp only [List.set]
          refine quietS 7 ?_
          simp only [Act.put, pa]; try dsimp only [List.set]
          refine readyS [8, 9] ?_
          refine allocS 0 rfl (fun q => .pointer (some ⟨q, 0, none⟩)) (.cells #[.int .i64 0, .int .i64 0, .string ⟨#[]⟩] 29) (h1 := fun Wx => by go_simp) (h2 := fun qa152 => ?_) (hs := ?_)
          · simp only [Act.put, pa]; try dsimp only [List.set]
            try simp only [List.set_cons_zero, List.set_cons_succ]
            refine readyS [9] ?_
            refine allocS 1 rfl (fun q => .pointer (some ⟨q, 0, none⟩)) (.cells #[.string ⟨#[]⟩, .int .i64 0, .int .i64 0, .string ⟨#[]⟩, .bool false] 38) (h1 := fun Wx => by go_simp) (h2 := fun qb153 => ?_) (hs := nilS)
            simp only [Act.put, pa]; try dsimp only [List.set]
            try simp only [List.set_cons_zero, List.set_cons_succ]
            refine readyS [10] ?_
            refine detS undef [boxW qa152 4 6 ⟨#[]⟩, boxE qb153, heapR h (HX [rowO 2 (by decide) P, rowO 2 (by decide) R, rowO 1 (by decide) R, rowO 2 (by decide) (P ++ R), rowO 2 (by decide) (repl m.toNat P), rowO 2 (by decide) (repl m.toNat P)])] (h1 := fun Wx hSw => by (have hz := hSw.box (b := qa152) (o := objZ) 0 rfl; refine useZ3 hz fun z0 z1 z2 y0 y1 y2 => ?_; go_simp; exact ⟨rfl, hSw.set3 0 rfl (.int .i64 4) (.int .i64 6) (.string ⟨#[]⟩)⟩)) (h2 := ?_) (hs := nilS)
            simp only [Act.put, pa]; try dsimp only [List.set]
            refine readyS [11] ?_
            refine detS undef [boxW qa152 4 6 ⟨#[]⟩, boxE qb153, heapR h (HX [rowO 2 (by decide) P, rowO 2 (by decide) R, rowO 1 (by decide) R, rowO 2 (by decide) (P ++ R), rowO 2 (by decide) (repl m.toNat P), rowO 2 (by decide) (repl m.toNat P)])] (h1 := fun Wx hSw => by (have hz := hSw.box (b := qb153) (o := objE) 1 rfl; refine useZ5 hz fun z0 z1 z2 z3 z4 y0 y1 y2 y3 y4 => ?_; go_simp; exact ⟨rfl, hSw.set5 1 rfl (.string ⟨#[]⟩) (.int .i64 0) (.int .i64 0) (.string ⟨#[]⟩) (.bool false)⟩)) (h2 := ?_) (hs := nilS)
            simp only [Act.put, pa]; try dsimp only [List.set]
            refine doneS (h := fun w22 S => ?_)
            go_wp2_with fail
            as_aux_lemma => (go_meet; exact ⟨_, _, rfl, rfl, S⟩)
          refine allocS 1 rfl (fun q => .pointer (some ⟨q, 0, none⟩)) (.cells #[.string ⟨#[]⟩, .int .i64 0, .int .i64 0, .string ⟨#[]⟩, .bool false] 38) (h1 := fun Wx => by go_simp) (h2 := fun qb156 => ?_) (hs := ?_)
          · simp only [Act.put, pa]; try dsimp only [List.set]
            try simp only [List.set_cons_zero, List.set_cons_succ]
            refine readyS [8] ?_
            refine allocS 0 rfl (fun q => .pointer (some ⟨q, 0, none⟩)) (.cells #[.int .i64 0, .int .i64 0, .string ⟨#[]⟩] 29) (h1 := fun Wx => by go_simp) (h2 := fun qa157 => ?_) (hs := nilS)
            simp only [Act.put, pa]; try dsimp only [List.set]
            try simp only [List.set_cons_zero, List.set_cons_succ]
            refine readyS [10] ?_
            refine detS undef [boxW qa157 4 6 ⟨#[]⟩, boxE qb156, heapR h (HX [rowO 2 (by decide) P, rowO 2 (by decide) R, rowO 1 (by decide) R, rowO 2 (by decide) (P ++ R), rowO 2 (by decide) (repl m.toNat P), rowO 2 (by decide) (repl m.toNat P)])] (h1 := fun Wx hSw => by (have hz := hSw.box (b := qa157) (o := objZ) 0 rfl; refine useZ3 hz fun z0 z1 z2 y0 y1 y2 => ?_; go_simp; exact ⟨rfl, hSw.set3 0 rfl (.int .i64 4) (.int .i64 6) (.string ⟨#[]⟩)⟩)) (h2 := ?_) (hs := nilS)
            simp only [Act.put, pa]; try dsimp only [List.set]
            refine readyS [11] ?_
            refine detS undef [boxW qa157 4 6 ⟨#[]⟩, boxE qb156, heapR h (HX [rowO 2 (by decide) P, rowO 2 (by decide) R, rowO 1 (by decide) R, rowO 2 (by decide) (P ++ R), rowO 2 (by decide) (repl m.toNat P), rowO 2 (by decide) (repl m.toNat P)])] (h1 := fun Wx hSw => by (have hz := hSw.box (b := qb156) (o := objE) 1 rfl; refine useZ5 hz fun z0 z1 z2 z3 z4 y0 y1 y2 y3 y4 => ?_; go_simp; exact ⟨rfl, hSw.set5 1 rfl (.string ⟨#[]⟩) (.int .i64 0) (.int .i64 0) (.string ⟨#[]⟩) (.bool false)⟩)) (h2 := ?_) (hs := nilS)
            simp only [Act.put, pa]; try dsimp only [List.set]
            refine doneS (h := fun w22 S => ?_)
            go_wp2_with fail
            as_aux_lemma => (go_meet; exact ⟨_, _, rfl, rfl, S⟩)
          exact nilS
        refine allocS 0 rfl (fun q => .pointer (some ⟨q, 0, none⟩)) (.cells #[.int .i64 0, .int .i64 0, .string ⟨#[]⟩] 29) (h1 := fun Wx => by go_simp) (h2 := fun qa1510 => ?_) (hs := ?_)
        · simp only [Act.put, pa]; try dsimp only [List.set]
          try simp only [List.set_cons_zero, List.set_cons_succ]
          refine readyS [4, 9] ?_
          refine detS (.tuple #[.agg #[.int .i64 4, .int .i64 6, .string ⟨#[]⟩], excZ]) [boxZ qa1510, emptyR, heapR h (HX [rowO 2 (by decide) P, rowO 2 (by decide) R, rowO 1 (by decide) R, rowO 2 (by decide) (P ++ R), rowO 2 (by decide) (repl m.toNat P), rowO 2 (by decide) (repl m.toNat P)])] (h1 := fun Wx hSw => by (go_simp; refine symCall ?_; exact bin_mul_rows hSw 2 rfl (HG5.out.good (by simp)) (by decide) (vX 1 (by decide)) (vI m HMI.out) rfl rfl (show m.toNat * P.length ≤ 4096 from Nat.le_trans HML.out (by decide)))) (h2 := ?_) (hs := ?_)
          · simp only [Act.put, pa]; try dsimp only [List.set]
            refine quietS 5 ?_
            simp only [Act.put, pa]; try dsimp only [List.set]
            refine quietS 6 ?_
            simp only [Act.put, pa]; try dsimp only [List.set]
            refine quietS 7 ?_
            simp only [Act.put, pa]; try dsimp only [List.set]
            refine readyS [9] ?_
            refine allocS 1 rfl (fun q => .pointer (some ⟨q, 0, none⟩)) (.cells #[.string ⟨#[]⟩, .int .i64 0, .int .i64 0, .string ⟨#[]⟩, .bool false] 38) (h1 := fun Wx => by go_simp) (h2 := fun qb1512 => ?_) (hs := nilS)
            simp only [Act.put, pa]; try dsimp only [List.set]
            try simp only [List.set_cons_zero, List.set_cons_succ]
            refine readyS [10] ?_
            refine detS undef [boxW qa1510 4 6 ⟨#[]⟩, boxE qb1512, heapR h (HX [rowO 2 (by decide) P, rowO 2 (by decide) R, rowO 1 (by decide) R, rowO 2 (by decide) (P ++ R), rowO 2 (by decide) (repl m.toNat P), rowO 2 (by decide) (repl m.toNat P)])] (h1 := fun Wx hSw => by (have hz := hSw.box (b := qa1510) (o := objZ) 0 rfl; refine useZ3 hz fun z0 z1 z2 y0 y1 y2 => ?_; go_simp; exact ⟨rfl, hSw.set3 0 rfl (.int .i64 4) (.int .i64 6) (.string ⟨#[]⟩)⟩)) (h2 := ?_) (hs := nilS)
            simp only [Act.put, pa]; try dsimp only [List.set]
            refine readyS [11] ?_
            refine detS undef [boxW qa1510 4 6 ⟨#[]⟩, boxE qb1512, heapR h (HX [rowO 2 (by decide) P, rowO 2 (by decide) R, rowO 1 (by decide) R, rowO 2 (by decide) (P ++ R), rowO 2 (by decide) (repl m.toNat P), rowO 2 (by decide) (repl m.toNat P)])] (h1 := fun Wx hSw => by (have hz := hSw.box (b := qb1512) (o := objE) 1 rfl; refine useZ5 hz fun z0 z1 z2 z3 z4 y0 y1 y2 y3 y4 => ?_; go_simp; exact ⟨rfl, hSw.set5 1 rfl (.string ⟨#[]⟩) (.int .i64 0) (.int .i64 0) (.string ⟨#[]⟩) (.bool false)⟩)) (h2 := ?_) (hs := nilS)
            simp only [Act.put, pa]; try dsimp only [List.set]
            refine doneS (h := fun w22 S => ?_)
            go_wp2_with fail
            as_aux_lemma => (go_meet; exact ⟨_, _, rfl, rfl, S⟩)
          refine allocS 1 rfl (fun q => .pointer (some ⟨q, 0, none⟩)) (.cells #[.string ⟨#[]⟩, .int .i64 0, .int .i64 0, .string ⟨#[]⟩, .bool false] 38) (h1 := fun Wx => by go_simp) (h2 := fun qb1515 => ?_) (hs := ?_)
          · simp only [Act.put, pa]; try dsimp only [List.set]
            try simp only [List.set_cons_zero, List.set_cons_succ]
            refine readyS [4] ?_
            refine detS (.tuple #[.agg #[.int .i64 4, .int .i64 6, .string ⟨#[]⟩], excZ]) [boxZ qa1510, boxE qb1515, heapR h (HX [rowO 2 (by decide) P, rowO 2 (by decide) R, rowO 1 (by decide) R, rowO 2 (by decide) (P ++ R), rowO 2 (by decide) (repl m.toNat P), rowO 2 (by decide) (repl m.toNat P)])] (h1 := fun Wx hSw => by (go_simp; refine symCall ?_; exact bin_mul_rows hSw 2 rfl (HG5.out.good (by simp)) (by decide) (vX 1 (by decide)) (vI m HMI.out) rfl rfl (show m.toNat * P.length ≤ 4096 from Nat.le_trans HML.out (by decide)))) (h2 := ?_) (hs := nilS)
            simp only [Act.put, pa]; try dsimp only [List.set]
            refine quietS 5 ?_
            simp only [Act.put, pa]; try dsimp only [List.set]
            refine quietS 6 ?_
            simp only [Act.put, pa]; try dsimp only [List.set]
            refine quietS 7 ?_
            simp only [Act.put, pa]; try dsimp only [List.set]
            refine readyS [10] ?_
            refine detS undef [boxW qa1510 4 6 ⟨#[]⟩, boxE qb1515, heapR h (HX [rowO 2 (by decide) P, rowO 2 (by decide) R, rowO 1 (by decide) R, rowO 2 (by decide) (P ++ R), rowO 2 (by decide) (repl m.toNat P), rowO 2 (by decide) (repl m.toNat P)])] (h1 := fun Wx hSw => by (have hz := hSw.box (b := qa1510) (o := objZ) 0 rfl; refine useZ3 hz fun z0 z1 z2 y0 y1 y2 => ?_; go_simp; exact ⟨rfl, hSw.set3 0 rfl (.int .i64 4) (.int .i64 6) (.string ⟨#[]⟩)⟩)) (h2 := ?_) (hs := nilS)
            simp only [Act.put, pa]; try dsimp only [List.set]
            refine readyS [11] ?_
            refine detS undef [boxW qa1510 4 6 ⟨#[]⟩, boxE qb1515, heapR h (HX [rowO 2 (by decide) P, rowO 2 (by decide) R, rowO 1 (by decide) R, rowO 2 (by decide) (P ++ R), rowO 2 (by decide) (repl m.toNat P), rowO 2 (by decide) (repl m.toNat P)])] (h1 := fun Wx hSw => by (have hz := hSw.box (b := qb1515) (o := objE) 1 rfl; refine useZ5 hz fun z0 z1 z2 z3 z4 y0 y1 y2 y3 y4 => ?_; go_simp; exact ⟨rfl, hSw.set5 1 rfl (.string ⟨#[]⟩) (.int .i64 0) (.int .i64 0) (.string ⟨#[]⟩) (.bool false)⟩)) (h2 := ?_) (hs := nilS)
            simp only [Act.put, pa]; try dsimp only [List.set]
            refine doneS (h := fun w22 S => ?_)
            go_wp2_with fail
            as_aux_lemma => (go_meet; exact ⟨_, _, rfl, rfl, S⟩)
          exact nilS
        refine allocS 1 rfl (fun q => .pointer (some ⟨q, 0, none⟩)) (.cells #[.string ⟨#[]⟩, .int .i64 0, .int .i64 0, .string ⟨#[]⟩, .bool false] 38) (h1 := fun Wx => by go_simp) (h2 := fun qb1519 => ?_) (hs := ?_)
        · simp only [Act.put, pa]; try dsimp only [List.set]
          try simp only [List.set_cons_zero, List.set_cons_succ]
          refine readyS [4, 8] ?_
          refine detS (.tuple #[.agg #[.int .i64 4, .int .i64 6, .string ⟨#[]⟩], excZ]) [emptyR, boxE qb1519, heapR h (HX [rowO 2 (by decide) P, rowO 2 (by decide) R, rowO 1 (by decide) R, rowO 2 (by decide) (P ++ R), rowO 2 (by decide) (repl m.toNat P), rowO 2 (by decide) (repl m.toNat P)])] (h1 := fun Wx hSw => by (go_simp; refine symCall ?_; exact bin_mul_rows hSw 2 rfl (HG5.out.good (by simp)) (by decide) (vX 1 (by decide)) (vI m HMI.out) rfl rfl (show m.toNat * P.length ≤ 4096 from Nat.le_trans HML.out (by decide)))) (h2 := ?_) (hs := ?_)
          · simp only [Act.put, pa]; try dsimp only [List.set]
            refine quietS 5 ?_
            simp only [Act.put, pa]; try dsimp only [List.set]
            refine quietS 6 ?_
            simp only [Act.put, pa]; try dsimp only [List.set]
            refine quietS 7 ?_
            simp only [Act.put, pa]; try dsimp only [List.set]
            refine readyS [8] ?_
            refine allocS 0 rfl (fun q => .pointer (some ⟨q, 0, none⟩)) (.cells #[.int .i64 0, .int .i64 0, .string ⟨#[]⟩] 29) (h1 := fun Wx => by go_simp) (h2 := fun qa1521 => ?_) (hs := nilS)
            simp only [Act.put, pa]; try dsimp only [List.set]
            try simp only [List.set_cons_zero, List.set_cons_succ]
            refine readyS [10] ?_
            refine detS undef [boxW qa1521 4 6 ⟨#[]⟩, boxE qb1519, heapR h (HX [rowO 2 (by decide) P, rowO 2 (by decide) R, rowO 1 (by decide) R, rowO 2 (by decide) (P ++ R), rowO 2 (by decide) (repl m.toNat P), rowO 2 (by decide) (repl m.toNat P)])] (h1 := fun Wx hSw => by (have hz := hSw.box (b := qa1521) (o := objZ) 0 rfl; refine useZ3 hz fun z0 z1 z2 y0 y1 y2 => ?_; go_simp; exact ⟨rfl, hSw.set3 0 rfl (.int .i64 4) (.int .i64 6) (.string ⟨#[]⟩)⟩)) (h2 := ?_) (hs := nilS)
            simp only [Act.put, pa]; try dsimp only [List.set]
            refine readyS [11] ?_
            refine detS undef [boxW qa1521 4 6 ⟨#[]⟩, boxE qb1519, heapR h (HX [rowO 2 (by decide) P, rowO 2 (by decide) R, rowO 1 (by decide) R, rowO 2 (by decide) (P ++ R), rowO 2 (by decide) (repl m.toNat P), rowO 2 (by decide) (repl m.toNat P)])] (h1 := fun Wx hSw => by (have hz := hSw.box (b := qb1519) (o := objE) 1 rfl; refine useZ5 hz fun z0 z1 z2 z3 z4 y0 y1 y2 y3 y4 => ?_; go_simp; exact ⟨rfl, hSw.set5 1 rfl (.string ⟨#[]⟩) (.int .i64 0) (.int .i64 0) (.string ⟨#[]⟩) (.bool false)⟩)) (h2 := ?_) (hs := nilS)
            simp only [Act.put, pa]; try dsimp only [List.set]
            refine doneS (h := fun w22 S => ?_)
            go_wp2_with fail
            as_aux_lemma => (go_meet; exact ⟨_, _, rfl, rfl, S⟩)
          refine allocS 0 rfl (fun q => .pointer (some ⟨q, 0, none⟩)) (.cells #[.int .i64 0, .int .i64 0, .string ⟨#[]⟩] 29) (h1 := fun Wx => by go_simp) (h2 := fun qa1524 => ?_) (hs := ?_)
          · simp only [Act.put, pa]; try dsimp only [List.set]
            try simp only [List.set_cons_zero, List.set_cons_succ]
            refine readyS [4] ?_
            refine detS (.tuple #[.agg #[.int .i64 4, .int .i64 6, .string ⟨#[]⟩], excZ]) [boxZ qa1524, boxE qb1519, heapR h (HX [rowO 2 (by decide) P, rowO 2 (by decide) R, rowO 1 (by decide) R, rowO 2 (by decide) (P ++ R), rowO 2 (by decide) (repl m.toNat P), rowO 2 (by decide) (repl m.toNat P)])] (h1 := fun Wx hSw => by (go_simp; refine symCall ?_; exact bin_mul_rows hSw 2 rfl (HG5.out.good (by simp)) (by decide) (vX 1 (by decide)) (vI m HMI.out) rfl rfl (show m.toNat * P.length ≤ 4096 from Nat.le_trans HML.out (by decide)))) (h2 := ?_) (hs := nilS)
            simp only [Act.put, pa]; try dsimp only [List.set]
            refine quietS 5 ?_
            simp only [Act.put, pa]; try dsimp only [List.set]
            refine quietS 6 ?_
            simp only [Act.put, pa]; try dsimp only [List.set]
            refine quietS 7 ?_
            simp only [Act.put, pa]; try dsimp only [List.set]
            refine readyS [10] ?_
            refine detS undef [boxW qa1524 4 6 ⟨#[]⟩, boxE qb1519, heapR h (HX [rowO 2 (by decide) P, rowO 2 (by decide) R, rowO 1 (by decide) R, rowO 2 (by decide) (P ++ R), rowO 2 (by decide) (repl m.toNat P), rowO 2 (by decide) (repl m.toNat P)])] (h1 := fun Wx hSw => by (have hz := hSw.box (b := qa1524) (o := objZ) 0 rfl; refine useZ3 hz fun z0 z1 z2 y0 y1 y2 => ?_; go_simp; exact ⟨rfl, hSw.set3 0 rfl (.int .i64 4) (.int .i64 6) (.string ⟨#[]⟩)⟩)) (h2 := ?_) (hs := nilS)
            simp only [Act.put, pa]; try dsimp only [List.set]
            refine readyS [11] ?_
            refine detS undef [boxW qa1524 4 6 ⟨#[]⟩, boxE qb1519, heapR h (HX [rowO 2 (by decide) P, rowO 2 (by decide) R, rowO 1 (by decide) R, rowO 2 (by decide) (P ++ R), rowO 2 (by decide) (repl m.toNat P), rowO 2 (by decide) (repl m.toNat P)])] (h1 := fun Wx hSw => by (have hz := hSw.box (b := qb1519) (o := objE) 1 rfl; refine useZ5 hz fun z0 z1 z2 z3 z4 y0 y1 y2 y3 y4 => ?_; go_simp; exact ⟨rfl, hSw.set5 1 rfl (.string ⟨#[]⟩) (.int .i64 0) (.int .i64 0) (.string ⟨#[]⟩) (.bool false)⟩)) (h2 := ?_) (hs := nilS)
            simp only [Act.put, pa]; try dsimp only [List.set]
            refine doneS (h := fun w22 S => ?_)
            go_wp2_with fail
            as_aux_lemma => (go_meet; exact ⟨_, _, rfl, rfl, S⟩)
          exact nilS
        exact nilS
      case rest =>
        obtain ⟨qq0_15, qq1_15, rfl, rfl, S⟩ := hcut
        replace S : Sep w (boxW qq0_15 4 6 ⟨#[]⟩ :: boxE qq1_15 :: heapR h (HX [rowO 2 (by decide) P, rowO 2 (by decide) R, rowO 1 (by decide) R, rowO 2 (by decide) (P ++ R), rowO 2 (by decide) (repl m.toNat P), rowO 2 (by decide) (repl m.toNat P)]) :: boxW qq0_14 4 5 ⟨#[]⟩ :: boxE qq1_14 :: boxW qX2 4 1 ⟨#[]⟩ :: boxW qY2 4 2 ⟨#[]⟩ :: boxW qa82 4 4 ⟨#[]⟩ :: []) wc := by rw [Hb15_20.out] at S; exact S
        clear Hb15_20 Kb15_20 K15_2 Cb15_20_0
        refine named (boxW qq0_15 4 6 ⟨#[]⟩ :: boxE qq1_15 :: heapR h (HX [rowO 2 (by decide) P, rowO 2 (by decide) R, rowO 1 (by decide) R, rowO 2 (by decide) (P ++ R), rowO 2 (by decide) (repl m.toNat P), rowO 2 (by decide) (repl m.toNat P)]) :: boxW qq0_14 4 5 ⟨#[]⟩ :: boxE qq1_14 :: boxW qX2 4 1 ⟨#[]⟩ :: boxW qY2 4 2 ⟨#[]⟩ :: boxW qa82 4 4 ⟨#[]⟩ :: [] : List Res) fun b16_22 hb16_22 => ?_
        have Hb16_22 := Lib.hid hb16_22
        have Kb16_22 : Hid (∀ W (Q : List Res), Sep w (Q ++ b16_22) W → True) := Lib.hid fun W Q T => by
          rw [hb16_22] at T
          trivial
        replace S := Lib.hid S
        clear hb16_22
        go_upto_region 16 with fail
        have S1 : Sep w ([] ++ b16_22) (wc) := by rw [Hb16_22.out]; exact S.out
        clear S
        refine regionL (E := [emptyR]) (base := b16_22) (Sep.putE S1) ?_
        clear S1
        refine stepL (fun v E1 => ∃ (q_24_1 : Nat), v = .slice (some ⟨q_24_1, 0, none⟩) 0 0 ∧ E1 = [valsR (.slice (some ⟨q_24_1, 0, none⟩) 0 0) []]) (h1 := fun Wx hSw => by (go_simp; exact ⟨_, ⟨_, rfl, rfl⟩, (hSw.madeRow V.cells 3 29).into 0 rfl⟩)) (h2 := fun v E1 hvE => ?_)
        obtain ⟨q_24_1, rfl, rfl⟩ := hvE
        simp only [Act.put, pa]; try dsimp only [List.set]
        refine quietL ?_
        simp only [Act.put, pa]; try dsimp only [List.set]
        intro w24 S
        replace S : Sep w (valsR (.slice (some ⟨q_24_1, 0, none⟩) 0 0) [] :: boxW qq0_15 4 6 ⟨#[]⟩ :: boxE qq1_15 :: heapR h (HX [rowO 2 (by decide) P, rowO 2 (by decide) R, rowO 1 (by decide) R, rowO 2 (by decide) (P ++ R), rowO 2 (by decide) (repl m.toNat P), rowO 2 (by decide) (repl m.toNat P)]) :: boxW qq0_14 4 5 ⟨#[]⟩ :: boxE qq1_14 :: boxW qX2 4 1 ⟨#[]⟩ :: boxW qY2 4 2 ⟨#[]⟩ :: boxW qa82 4 4 ⟨#[]⟩ :: []) w24 := by rw [Hb16_22.out] at S; exact S
        clear Hb16_22 Kb16_22
        replace S := Lib.hid S
        go_wp2
        go_loopw [27, 28] (fun s27 s28 wr => ∃ (c L : Nat) (a : Option Addr) (cp : Nat), Hid (c ≤ m.toNat ∧ (repl c P).length = L) ∧ s27 = .slice a L cp ∧ s28 = .int .i64 c ∧ Sep w ([valsR (.slice a L cp) (repl c P), boxW qq0_15 4 6 ⟨#[]⟩, boxE qq1_15, heapR h (HX [rowO 2 (by decide) P, rowO 2 (by decide) R, rowO 1 (by decide) R, rowO 2 (by decide) (P ++ R), rowO 2 (by decide) (repl m.toNat P), rowO 2 (by decide) (repl m.toNat P)]), boxW qq0_14 4 5 ⟨#[]⟩, boxE qq1_14, boxW qX2 4 1 ⟨#[]⟩, boxW qY2 4 2 ⟨#[]⟩, boxW qa82 4 4 ⟨#[]⟩] ++ []) wr) (fun _ s28 _ => m.toNat - (intOf s28).toNat)
        case atStart => exact ⟨0, 0, _, _, Lib.hid ⟨Nat.zero_le _, rfl⟩, rfl, rfl, S.out⟩
        case round =>
          obtain ⟨c, L, a, cp, HI, rfl, rfl, S⟩ := hrel
          replace S : Sep w (valsR (.slice a L cp) (repl c P) :: boxW qq0_15 4 6 ⟨#[]⟩ :: boxE qq1_15 :: heapR h (HX [rowO 2 (by decide) P, rowO 2 (by decide) R, rowO 1 (by decide) R, rowO 2 (by decide) (P ++ R), rowO 2 (by decide) (repl m.toNat P), rowO 2 (by decide) (repl m.toNat P)]) :: boxW qq0_14 4 5 ⟨#[]⟩ :: boxE qq1_14 :: boxW qX2 4 1 ⟨#[]⟩ :: boxW qY2 4 2 ⟨#[]⟩ :: boxW qa82 4 4 ⟨#[]⟩ :: []) wr := S
          by_cases hlt : (c : Int) < m
          ·
            obtain ⟨L2, hL2⟩ : ∃ L2, L + P.length = L2 := ⟨_, rfl⟩
            have HL2 := Lib.hid hL2
            have HLT := Lib.hid hlt
            have HLB := Lib.hid (show L2 ≤ 9000000 from by
              have h1 : c ≤ 5 := by have := HM1.out; omega
              have h2 : c * P.length ≤ 40 := Nat.le_trans (Nat.mul_le_mul h1 H8P.out) (by decide)
              rw [← HI.out.2, repl_len] at hL2; have := H8P.out; omega)
            clear hL2
            replace S : Sep w (valsR (.slice a L cp) (repl c P) :: boxW qq0_15 4 6 ⟨#[]⟩ :: boxE qq1_15 :: heapR h (HX [rowO 2 (by decide) P, rowO 2 (by decide) R, rowO 1 (by decide) R, rowO 2 (by decide) (P ++ R), rowO 2 (by decide) (repl m.toNat P), rowO 2 (by decide) (repl m.toNat P)]) :: boxW qq0_14 4 5 ⟨#[]⟩ :: boxE qq1_14 :: boxW qX2 4 1 ⟨#[]⟩ :: boxW qY2 4 2 ⟨#[]⟩ :: boxW qa82 4 4 ⟨#[]⟩ :: []) (wr) := by
              refine (show Sep w ([valsR (.slice a L cp) (repl c P), boxW qq0_15 4 6 ⟨#[]⟩, boxE qq1_15, heapR h (HX [rowO 2 (by decide) P, rowO 2 (by decide) R, rowO 1 (by decide) R, rowO 2 (by decide) (P ++ R), rowO 2 (by decide) (repl m.toNat P), rowO 2 (by decide) (repl m.toNat P)]), boxW qq0_14 4 5 ⟨#[]⟩, boxE qq1_14, boxW qX2 4 1 ⟨#[]⟩, boxW qY2 4 2 ⟨#[]⟩, boxW qa82 4 4 ⟨#[]⟩] ++ []) _ from S).perm ?_
              exact List.Perm.append_right [] (perm_of (l := [valsR (.slice a L cp) (repl c P), boxW qq0_15 4 6 ⟨#[]⟩, boxE qq1_15, heapR h (HX [rowO 2 (by decide) P, rowO 2 (by decide) R, rowO 1 (by decide) R, rowO 2 (by decide) (P ++ R), rowO 2 (by decide) (repl m.toNat P), rowO 2 (by decide) (repl m.toNat P)]), boxW qq0_14 4 5 ⟨#[]⟩, boxE qq1_14, boxW qX2 4 1 ⟨#[]⟩, boxW qY2 4 2 ⟨#[]⟩, boxW qa82 4 4 ⟨#[]⟩]) [0, 1, 2, 3, 4, 5, 6, 7, 8] (by show (List.range' 0 9).Perm [0, 1, 2, 3, 4, 5, 6, 7, 8]; decide) (by rfl))
            refine named (boxW qq0_15 4 6 ⟨#[]⟩ :: boxE qq1_15 :: heapR h (HX [rowO 2 (by decide) P, rowO 2 (by decide) R, rowO 1 (by decide) R, rowO 2 (by decide) (P ++ R), rowO 2 (by decide) (repl m.toNat P), rowO 2 (by decide) (repl m.toNat P)]) :: boxW qq0_14 4 5 ⟨#[]⟩ :: boxE qq1_14 :: boxW qX2 4 1 ⟨#[]⟩ :: boxW qY2 4 2 ⟨#[]⟩ :: boxW qa82 4 4 ⟨#[]⟩ :: [] : List Res) fun b20_50 hb20_50 => ?_
            have Hb20_50 := Lib.hid hb20_50
            have Kb20_50 : Hid (∀ W (Q : List Res), Sep w (Q ++ b20_50) W → True) := Lib.hid fun W Q T => by
              rw [hb20_50] at T
              trivial
            have Cb20_50_0 : Hid (∀ W (Q : List Res), Sep w (Q ++ b20_50) W → W.cell? ⟨qX2, 0, none⟩ = some (.int .i64 4) ∧ W.cell? ⟨qX2, 1, none⟩ = some (.int .i64 1) ∧ W.cell? ⟨qX2, 2, none⟩ = some (.string ⟨#[]⟩)) := Lib.hid fun W Q T => by
              rw [hb20_50] at T
              have i0 := T.box (b := qX2) (o := objW 4 1 ⟨#[]⟩) (Q.length + 5) (by rw [List.getElem?_append_right (by omega), Nat.add_sub_cancel_left]; rfl)
              exact ⟨cellAt i0 0 rfl, cellAt i0 1 rfl, cellAt i0 2 rfl⟩
            have KI20_3 : Hid (∀ W (Q : List Res), Sep w (Q ++ b20_50) W → Calls Tryz.prog 31 #[.pointer (some ⟨h, 0, none⟩), .agg #[.int .i64 4, .int .i64 1, .string ⟨#[]⟩]] W fun e W' => ∃ a c, e = .returned (.slice a P.length c) ∧ Sep w (valsR (.slice a P.length c) P :: (Q ++ b20_50)) W') := Lib.hid fun W Q T => by
              rw [Hb20_50.out] at T ⊢
              exact items_at T (Q.length + 2) (by rw [List.getElem?_append_right (by omega), Nat.add_sub_cancel_left]; rfl) (HG6.out.good (by simp)) (by decide) (vX 1 (by decide)) P rfl
            replace S := Lib.hid S
            clear hb20_50
            go_upto_region 20 with fail
            have S1 : Sep w ([valsR (.slice a L cp) (repl c P)] ++ b20_50) (wr) := by rw [Hb20_50.out]; exact S.out
            clear S
            refine regionL (E := [emptyR, valsR (.slice a L cp) (repl c P)]) (base := b20_50) (Sep.putE S1) ?_
            clear S1
            iterate 2 (refine quietL ?_; simp only [Act.put, pa]; try dsimp only [List.set])
            refine quietL (hy := fun E Wx hSw => by ((refine and3 (Cb20_50_0.out _ _ hSw) fun u0 u1 u2 => ?_); go_simp; exact ⟨rfl, hSw⟩)) (h := ?_)
            simp only [Act.put, pa]; try dsimp only [List.set]
            refine stepL (fun v E1 => ∃ (va_52_1 : Option Addr) (vc_52_1 : Nat), v = .slice va_52_1 P.length vc_52_1 ∧ E1 = [valsR (.slice va_52_1 P.length vc_52_1) P, valsR (.slice a L cp) (repl c P)]) (h1 := fun Wx hSw => by (go_simp; refine symCallN ?_; exact (KI20_3.out _ _ hSw).mono fun e W' ⟨a, c, e1, e2⟩ => ⟨_, _, e1, ⟨a, c, rfl, rfl⟩, e2.into 0 rfl⟩)) (h2 := fun v E1 hvE => ?_)
            obtain ⟨va_52_1, vc_52_1, rfl, rfl⟩ := hvE
            simp only [Act.put, pa]; try dsimp only [List.set]
            refine stepL (fun v E1 => ∃ (va_52_2 : Option Addr) (vc_52_2 : Nat), v = .slice va_52_2 L2 vc_52_2 ∧ E1 = [valsR (.slice va_52_1 P.length vc_52_1) P, valsR (.slice va_52_2 L2 vc_52_2) (repl c P ++ P)]) (h1 := fun Wx hSw => by (obtain ⟨va, vc, w2, hr, S2⟩ := hSw.appendV 1 rfl HI.out.2 (hSw.seesV 0 rfl) L2 HL2.out HLB.out; exact symAppend _ _ _ _ rfl _ _ rfl rfl hr ⟨_, ⟨va, vc, rfl, rfl⟩, S2⟩)) (h2 := fun v E1 hvE => ?_)
            obtain ⟨va_52_2, vc_52_2, rfl, rfl⟩ := hvE
            simp only [Act.put, pa]; try dsimp only [List.set]
            refine quietL ?_
            simp only [Act.put, pa]; try dsimp only [List.set]
            intro w52 S
            replace S : Sep w (valsR (.slice va_52_1 P.length vc_52_1) P :: valsR (.slice va_52_2 L2 vc_52_2) (repl c P ++ P) :: boxW qq0_15 4 6 ⟨#[]⟩ :: boxE qq1_15 :: heapR h (HX [rowO 2 (by decide) P, rowO 2 (by decide) R, rowO 1 (by decide) R, rowO 2 (by decide) (P ++ R), rowO 2 (by decide) (repl m.toNat P), rowO 2 (by decide) (repl m.toNat P)]) :: boxW qq0_14 4 5 ⟨#[]⟩ :: boxE qq1_14 :: boxW qX2 4 1 ⟨#[]⟩ :: boxW qY2 4 2 ⟨#[]⟩ :: boxW qa82 4 4 ⟨#[]⟩ :: []) w52 := by rw [Hb20_50.out] at S; exact S
            clear Hb20_50 Kb20_50 KI20_3 Cb20_50_0
            replace S : Sep w ([valsR (.slice va_52_1 P.length vc_52_1) P, valsR (.slice va_52_2 L2 vc_52_2) (repl c P ++ P), boxW qq0_15 4 6 ⟨#[]⟩, boxE qq1_15, heapR h (HX [rowO 2 (by decide) P, rowO 2 (by decide) R, rowO 1 (by decide) R, rowO 2 (by decide) (P ++ R), rowO 2 (by decide) (repl m.toNat P), rowO 2 (by decide) (repl m.toNat P)]), boxW qq0_14 4 5 ⟨#[]⟩, boxE qq1_14, boxW qX2 4 1 ⟨#[]⟩, boxW qY2 4 2 ⟨#[]⟩, boxW qa82 4 4 ⟨#[]⟩] ++ []) (w52) := by
              refine (show Sep w ([valsR (.slice va_52_1 P.length vc_52_1) P, valsR (.slice va_52_2 L2 vc_52_2) (repl c P ++ P), boxW qq0_15 4 6 ⟨#[]⟩, boxE qq1_15, heapR h (HX [rowO 2 (by decide) P, rowO 2 (by decide) R, rowO 1 (by decide) R, rowO 2 (by decide) (P ++ R), rowO 2 (by decide) (repl m.toNat P), rowO 2 (by decide) (repl m.toNat P)]), boxW qq0_14 4 5 ⟨#[]⟩, boxE qq1_14, boxW qX2 4 1 ⟨#[]⟩, boxW qY2 4 2 ⟨#[]⟩, boxW qa82 4 4 ⟨#[]⟩] ++ []) _ from S).perm ?_
              exact List.Perm.append_right [] (perm_of (l := [valsR (.slice va_52_1 P.length vc_52_1) P, valsR (.slice va_52_2 L2 vc_52_2) (repl c P ++ P), boxW qq0_15 4 6 ⟨#[]⟩, boxE qq1_15, heapR h (HX [rowO 2 (by decide) P, rowO 2 (by decide) R, rowO 1 (by decide) R, rowO 2 (by decide) (P ++ R), rowO 2 (by decide) (repl m.toNat P), rowO 2 (by decide) (repl m.toNat P)]), boxW qq0_14 4 5 ⟨#[]⟩, boxE qq1_14, boxW qX2 4 1 ⟨#[]⟩, boxW qY2 4 2 ⟨#[]⟩, boxW qa82 4 4 ⟨#[]⟩]) [0, 1, 2, 3, 4, 5, 6, 7, 8, 9] (by show (List.range' 0 10).Perm [0, 1, 2, 3, 4, 5, 6, 7, 8, 9]; decide) (by rfl))
            iterate 1 replace S := S.tail
            replace S : Sep w (valsR (.slice va_52_2 L2 vc_52_2) (repl c P ++ P) :: boxW qq0_15 4 6 ⟨#[]⟩ :: boxE qq1_15 :: heapR h (HX [rowO 2 (by decide) P, rowO 2 (by decide) R, rowO 1 (by decide) R, rowO 2 (by decide) (P ++ R), rowO 2 (by decide) (repl m.toNat P), rowO 2 (by decide) (repl m.toNat P)]) :: boxW qq0_14 4 5 ⟨#[]⟩ :: boxE qq1_14 :: boxW qX2 4 1 ⟨#[]⟩ :: boxW qY2 4 2 ⟨#[]⟩ :: boxW qa82 4 4 ⟨#[]⟩ :: []) (w52) := S
            replace S := Lib.hid S
            have hci : IntKind.i64.wrap ((c : Int) + 1) = (c : Int) + 1 := IntWalk.i64_in _ (by have := HM1.out; omega)
            go_wp2
            exact ⟨⟨c + 1, L2, _, _, Lib.hid ⟨by have := HLT.out; omega, by rw [repl, List.length_append, HI.out.2]; exact HL2.out⟩, rfl, by go_num, S.out⟩, by have := HLT.out; simp [intOf]; omega⟩
          ·
            have hce : repl c P = Q5 := by
              rw [HQ5.out, show c = m.toNat by have := HI.out.1; omega]
            have HCE := Lib.hid hce
            clear hce
            refine named (valsR (.slice a L cp) (repl c P) :: boxW qq0_15 4 6 ⟨#[]⟩ :: boxE qq1_15 :: heapR h (HX [rowO 2 (by decide) P, rowO 2 (by decide) R, rowO 1 (by decide) R, rowO 2 (by decide) (P ++ R), rowO 2 (by decide) (repl m.toNat P), rowO 2 (by decide) (repl m.toNat P)]) :: boxW qq0_14 4 5 ⟨#[]⟩ :: boxE qq1_14 :: boxW qX2 4 1 ⟨#[]⟩ :: boxW qY2 4 2 ⟨#[]⟩ :: boxW qa82 4 4 ⟨#[]⟩ :: [] : List Res) fun b21_100 hb21_100 => ?_
            have Hb21_100 := Lib.hid hb21_100
            have Kb21_100 : Hid (∀ W (Q : List Res), Sep w (Q ++ b21_100) W → True) := Lib.hid fun W Q T => by
              rw [hb21_100] at T
              trivial
            have Cb21_100_0 : Hid (∀ W (Q : List Res), Sep w (Q ++ b21_100) W → W.cell? ⟨qX2, 0, none⟩ = some (.int .i64 4) ∧ W.cell? ⟨qX2, 1, none⟩ = some (.int .i64 1) ∧ W.cell? ⟨qX2, 2, none⟩ = some (.string ⟨#[]⟩)) := Lib.hid fun W Q T => by
              rw [hb21_100] at T
              have i0 := T.box (b := qX2) (o := objW 4 1 ⟨#[]⟩) (Q.length + 6) (by rw [List.getElem?_append_right (by omega), Nat.add_sub_cancel_left]; rfl)
              exact ⟨cellAt i0 0 rfl, cellAt i0 1 rfl, cellAt i0 2 rfl⟩
            have Cb21_100_1 : Hid (∀ W (Q : List Res), Sep w (Q ++ b21_100) W → W.cell? ⟨qq0_14, 0, none⟩ = some (.int .i64 4) ∧ W.cell? ⟨qq0_14, 1, none⟩ = some (.int .i64 5) ∧ W.cell? ⟨qq0_14, 2, none⟩ = some (.string ⟨#[]⟩)) := Lib.hid fun W Q T => by
              rw [hb21_100] at T
              have i0 := T.box (b := qq0_14) (o := objW 4 5 ⟨#[]⟩) (Q.length + 4) (by rw [List.getElem?_append_right (by omega), Nat.add_sub_cancel_left]; rfl)
              exact ⟨cellAt i0 0 rfl, cellAt i0 1 rfl, cellAt i0 2 rfl⟩
            have Cb21_100_2 : Hid (∀ W (Q : List Res), Sep w (Q ++ b21_100) W → W.cell? ⟨qq0_15, 0, none⟩ = some (.int .i64 4) ∧ W.cell? ⟨qq0_15, 1, none⟩ = some (.int .i64 6) ∧ W.cell? ⟨qq0_15, 2, none⟩ = some (.string ⟨#[]⟩)) := Lib.hid fun W Q T => by
              rw [hb21_100] at T
              have i0 := T.box (b := qq0_15) (o := objW 4 6 ⟨#[]⟩) (Q.length + 1) (by rw [List.getElem?_append_right (by omega), Nat.add_sub_cancel_left]; rfl)
              exact ⟨cellAt i0 0 rfl, cellAt i0 1 rfl, cellAt i0 2 rfl⟩
            have Cb21_100_3 : Hid (∀ W (Q : List Res), Sep w (Q ++ b21_100) W → W.cell? ⟨qq1_14, 0, none⟩ = some (.string ⟨#[]⟩) ∧ W.cell? ⟨qq1_14, 1, none⟩ = some (.int .i64 0) ∧ W.cell? ⟨qq1_14, 2, none⟩ = some (.int .i64 0) ∧ W.cell? ⟨qq1_14, 3, none⟩ = some (.string ⟨#[]⟩) ∧ W.cell? ⟨qq1_14, 4, none⟩ = some (.bool false)) := Lib.hid fun W Q T => by
              rw [hb21_100] at T
              have i0 := T.box (b := qq1_14) (o := objE) (Q.length + 5) (by rw [List.getElem?_append_right (by omega), Nat.add_sub_cancel_left]; rfl)
              exact ⟨cellAt i0 0 rfl, cellAt i0 1 rfl, cellAt i0 2 rfl, cellAt i0 3 rfl, cellAt i0 4 rfl⟩
            have Cb21_100_4 : Hid (∀ W (Q : List Res), Sep w (Q ++ b21_100) W → W.cell? ⟨qq1_15, 0, none⟩ = some (.string ⟨#[]⟩) ∧ W.cell? ⟨qq1_15, 1, none⟩ = some (.int .i64 0) ∧ W.cell? ⟨qq1_15, 2, none⟩ = some (.int .i64 0) ∧ W.cell? ⟨qq1_15, 3, none⟩ = some (.string ⟨#[]⟩) ∧ W.cell? ⟨qq1_15, 4, none⟩ = some (.bool false)) := Lib.hid fun W Q T => by
              rw [hb21_100] at T
              have i0 := T.box (b := qq1_15) (o := objE) (Q.length + 2) (by rw [List.getElem?_append_right (by omega), Nat.add_sub_cancel_left]; rfl)
              exact ⟨cellAt i0 0 rfl, cellAt i0 1 rfl, cellAt i0 2 rfl, cellAt i0 3 rfl, cellAt i0 4 rfl⟩
            have K21_1 : Hid (∀ W (Q : List Res), Sep w (Q ++ b21_100) W → Calls Tryz.prog 19 #[excZ] W fun e W' => e = .returned (.bool true) ∧ Sep w (Q ++ b21_100) W') := Lib.hid fun W Q T => by
              exact (none_z W).mono fun e W' ⟨e1, e2⟩ => ⟨e1, T.later e2⟩
            have K21_4 : Hid (∀ W (Q : List Res), Sep w (Q ++ b21_100) W → Calls Tryz.prog 19 #[excZ] W fun e W' => e = .returned (.bool true) ∧ Sep w (Q ++ b21_100) W') := Lib.hid fun W Q T => by
              exact (none_z W).mono fun e W' ⟨e1, e2⟩ => ⟨e1, T.later e2⟩
            have K21_19 : Hid (∀ W (Q : List Res), Sep w (Q ++ b21_100) W → Calls Tryz.prog 30 #[.pointer (some ⟨h, 0, none⟩), .agg #[.int .i64 4, .int .i64 5, .string ⟨#[]⟩]] W fun e W' => e = .returned (.int .i64 2) ∧ Sep w (Q ++ b21_100) W') := Lib.hid fun W Q T => by
              rw [Hb21_100.out] at T ⊢
              exact kind_at T (Q.length + 3) (by rw [List.getElem?_append_right (by omega), Nat.add_sub_cancel_left]; rfl) (vX 5 (by decide)) 2 rfl
            have K21_22 : Hid (∀ W (Q : List Res), Sep w (Q ++ b21_100) W → Calls Tryz.prog 30 #[.pointer (some ⟨h, 0, none⟩), .agg #[.int .i64 4, .int .i64 1, .string ⟨#[]⟩]] W fun e W' => e = .returned (.int .i64 2) ∧ Sep w (Q ++ b21_100) W') := Lib.hid fun W Q T => by
              rw [Hb21_100.out] at T ⊢
              exact kind_at T (Q.length + 3) (by rw [List.getElem?_append_right (by omega), Nat.add_sub_cancel_left]; rfl) (vX 1 (by decide)) 2 rfl
            have KI21_28 : Hid (∀ W (Q : List Res), Sep w (Q ++ b21_100) W → Calls Tryz.prog 31 #[.pointer (some ⟨h, 0, none⟩), .agg #[.int .i64 4, .int .i64 5, .string ⟨#[]⟩]] W fun e W' => ∃ a c, e = .returned (.slice a Q5.length c) ∧ Sep w (valsR (.slice a Q5.length c) Q5 :: (Q ++ b21_100)) W') := Lib.hid fun W Q T => by
              rw [Hb21_100.out] at T ⊢
              exact items_at T (Q.length + 3) (by rw [List.getElem?_append_right (by omega), Nat.add_sub_cancel_left]; rfl) (HG6.out.good (by simp)) (by decide) (vX 5 (by decide)) Q5 HQ5.out.symm
            have KI21_35 : Hid (∀ W (Q : List Res), Sep w (Q ++ b21_100) W → Calls Tryz.prog 31 #[.pointer (some ⟨h, 0, none⟩), .agg #[.int .i64 4, .int .i64 6, .string ⟨#[]⟩]] W fun e W' => ∃ a c, e = .returned (.slice a Q5.length c) ∧ Sep w (valsR (.slice a Q5.length c) Q5 :: (Q ++ b21_100)) W') := Lib.hid fun W Q T => by
              rw [Hb21_100.out] at T ⊢
              exact items_at T (Q.length + 3) (by rw [List.getElem?_append_right (by omega), Nat.add_sub_cancel_left]; rfl) (HG6.out.good (by simp)) (by decide) (vX 6 (by decide)) Q5 HQ5.out.symm
            have KA : Hid (∀ W (Q : List Res), Sep w (Q ++ b21_100) W → SeesV W (.slice a L cp) (repl c P)) := Lib.hid fun W Q T => by rw [Hb21_100.out] at T; exact T.seesV (Q.length + 0) (by rw [List.getElem?_append_right (by omega), Nat.add_sub_cancel_left]; rfl)
            replace S := Lib.hid S
            clear hb21_100
            go_upto_region 21 with fail
            have S1 : Sep w ([] ++ b21_100) (wr) := by rw [Hb21_100.out]; exact S.out
            clear S
            refine regionP 28 12 (E := [emptyR, emptyR]) (base := b21_100) (Sep.putE (Sep.putE S1)) ?_
            clear S1
            refine quietP (hy := fun E Wx hSw => by ((refine and5 (Cb21_100_3.out _ _ hSw) fun u0 u1 u2 u3 u4 => ?_); go_simp; exact ⟨rfl, hSw⟩)) (h := ?_)
            simp only [Act.put, pa]; try dsimp only [List.set]
            refine quietP (hy := fun E Wx hSw => by (go_simp; exact symCall (K21_1.out _ _ hSw))) (h := ?_)
            simp only [Act.put, pa]; try dsimp only [List.set]
            refine quietP ?_
            simp only [Act.put, pa]; try dsimp only [List.set]
            refine quietP (hy := fun E Wx hSw => by ((refine and5 (Cb21_100_4.out _ _ hSw) fun u0 u1 u2 u3 u4 => ?_); go_simp; exact ⟨rfl, hSw⟩)) (h := ?_)
            simp only [Act.put, pa]; try dsimp only [List.set]
            refine quietP (hy := fun E Wx hSw => by (go_simp; exact symCall (K21_4.out _ _ hSw))) (h := ?_)
            simp only [Act.put, pa]; try dsimp only [List.set]
            iterate 2 (refine quietP ?_; simp only [Act.put, pa]; try dsimp only [List.set])
            refine quietP (hy := fun E Wx hSw => by ((refine and3 (Cb21_100_1.out _ _ hSw) fun u0 u1 u2 => ?_); go_simp; exact ⟨rfl, hSw⟩)) (h := ?_)
            simp only [Act.put, pa]; try dsimp only [List.set]
            refine quietP (hy := fun E Wx hSw => by ((refine and3 (Cb21_100_2.out _ _ hSw) fun u0 u1 u2 => ?_); go_simp; exact ⟨rfl, hSw⟩)) (h := ?_)
            simp only [Act.put, pa]; try dsimp only [List.set]
            iterate 3 (refine quietP ?_; simp only [Act.put, pa]; try dsimp only [List.set])
            refine quietP (hy := fun E Wx hSw => by ((refine and3 (Cb21_100_1.out _ _ hSw) fun u0 u1 u2 => ?_); go_simp; exact ⟨rfl, hSw⟩)) (h := ?_)
            simp only [Act.put, pa]; try dsimp only [List.set]
            refine quietP (hy := fun E Wx hSw => by ((refine and3 (Cb21_100_0.out _ _ hSw) fun u0 u1 u2 => ?_); go_simp; exact ⟨rfl, hSw⟩)) (h := ?_)
            simp only [Act.put, pa]; try dsimp only [List.set]
            iterate 4 (refine quietP ?_; simp only [Act.put, pa]; try dsimp only [List.set])
            refine quietP (hy := fun E Wx hSw => by ((refine and3 (Cb21_100_1.out _ _ hSw) fun u0 u1 u2 => ?_); go_simp; exact ⟨rfl, hSw⟩)) (h := ?_)
            simp only [Act.put, pa]; try dsimp only [List.set]
            refine quietP (hy := fun E Wx hSw => by (go_simp; exact symCall (K21_19.out _ _ hSw))) (h := ?_)
            simp only [Act.put, pa]; try dsimp only [List.set]
            refine quietP ?_
            simp only [Act.put, pa]; try dsimp only [List.set]
            refine quietP (hy := fun E Wx hSw => by ((refine and3 (Cb21_100_0.out _ _ hSw) fun u0 u1 u2 => ?_); go_simp; exact ⟨rfl, hSw⟩)) (h := ?_)
            simp only [Act.put, pa]; try dsimp only [List.set]
            refine quietP (hy := fun E Wx hSw => by (go_simp; exact symCall (K21_22.out _ _ hSw))) (h := ?_)
            simp only [Act.put, pa]; try dsimp only [List.set]
            iterate 4 (refine quietP ?_; simp only [Act.put, pa]; try dsimp only [List.set])
            refine quietP (hy := fun E Wx hSw => by ((refine and3 (Cb21_100_1.out _ _ hSw) fun u0 u1 u2 => ?_); go_simp; exact ⟨rfl, hSw⟩)) (h := ?_)
            simp only [Act.put, pa]; try dsimp only [List.set]
            refine endP ?_
            refine quietS 29 ?_
            simp only [Act.put, pa]; try dsimp only [List.set]
            refine readyS [28] ?_
            refine stepS (fun v E1 => ∃ (va_102_1 : Option Addr) (vc_102_1 : Nat), v = .slice va_102_1 Q5.length vc_102_1 ∧ E1 = [valsR (.slice va_102_1 Q5.length vc_102_1) Q5, emptyR]) (h1 := fun Wx hSw => by (go_simp; refine symCallN ?_; exact (KI21_28.out _ _ hSw).mono fun e W' ⟨a, c, e1, e2⟩ => ⟨_, _, e1, ⟨a, c, rfl, rfl⟩, e2.into 0 rfl⟩)) (h2 := fun v E1 hvE => ?_) (hs := nilS)
            obtain ⟨va_102_1, vc_102_1, rfl, rfl⟩ := hvE
            simp only [Act.put, pa]; try dsimp only [List.set]
            refine readyS [30] ?_
            refine detS (.bool true) [valsR (.slice va_102_1 Q5.length vc_102_1) Q5, emptyR] (h1 := fun Wx hSw => by (go_simp; refine symCall ?_; exact same_at hSw (hSw.seesV 0 rfl) (KA.out _ _ hSw) HCE.out.symm)) (h2 := ?_) (hs := nilS)
            simp only [Act.put, pa]; try dsimp only [List.set]
            refine quietS 31 ?_
            simp only [Act.put, pa]; try dsimp only [List.set]
            refine quietS 32 ?_
            simp only [Act.put, pa]; try dsimp only [List.set]
            refine quietS 33 ?_
            simp only [Act.put, pa]; try dsimp only [List.set]
            refine quietS 34 (hy := fun E Wx hSw => by ((refine and3 (Cb21_100_2.out _ _ hSw) fun u0 u1 u2 => ?_); go_simp; exact ⟨rfl, hSw⟩)) (h := ?_)
            simp only [Act.put, pa]; try dsimp only [List.set]
            refine quietS 36 ?_
            simp only [Act.put, pa]; try dsimp only [List.set]
            refine readyS [35] ?_
            refine stepS (fun v E1 => ∃ (va_102_3 : Option Addr) (vc_102_3 : Nat), v = .slice va_102_3 Q5.length vc_102_3 ∧ E1 = [valsR (.slice va_102_1 Q5.length vc_102_1) Q5, valsR (.slice va_102_3 Q5.length vc_102_3) Q5]) (h1 := fun Wx hSw => by (go_simp; refine symCallN ?_; exact (KI21_35.out _ _ hSw).mono fun e W' ⟨a, c, e1, e2⟩ => ⟨_, _, e1, ⟨a, c, rfl, rfl⟩, e2.into 1 rfl⟩)) (h2 := fun v E1 hvE => ?_) (hs := nilS)
            obtain ⟨va_102_3, vc_102_3, rfl, rfl⟩ := hvE
            simp only [Act.put, pa]; try dsimp only [List.set]
            refine readyS [37] ?_
            refine detS (.bool true) [valsR (.slice va_102_1 Q5.length vc_102_1) Q5, valsR (.slice va_102_3 Q5.length vc_102_3) Q5] (h1 := fun Wx hSw => by (go_simp; refine symCall ?_; exact same_at hSw (hSw.seesV 1 rfl) (KA.out _ _ hSw) HCE.out.symm)) (h2 := ?_) (hs := nilS)
            simp only [Act.put, pa]; try dsimp only [List.set]
            refine quietS 38 ?_
            simp only [Act.put, pa]; try dsimp only [List.set]
            refine quietS 39 ?_
            simp only [Act.put, pa]; try dsimp only [List.set]
            refine doneS (h := fun w102 S => ?_)
            replace S : Sep w (valsR (.slice va_102_1 Q5.length vc_102_1) Q5 :: valsR (.slice va_102_3 Q5.length vc_102_3) Q5 :: valsR (.slice a L cp) (repl c P) :: boxW qq0_15 4 6 ⟨#[]⟩ :: boxE qq1_15 :: heapR h (HX [rowO 2 (by decide) P, rowO 2 (by decide) R, rowO 1 (by decide) R, rowO 2 (by decide) (P ++ R), rowO 2 (by decide) (repl m.toNat P), rowO 2 (by decide) (repl m.toNat P)]) :: boxW qq0_14 4 5 ⟨#[]⟩ :: boxE qq1_14 :: boxW qX2 4 1 ⟨#[]⟩ :: boxW qY2 4 2 ⟨#[]⟩ :: boxW qa82 4 4 ⟨#[]⟩ :: []) w102 := by rw [Hb21_100.out] at S; exact S
            clear Hb21_100 Kb21_100 K21_1 K21_4 K21_19 K21_22 KI21_28 KI21_35 KA Cb21_100_0 Cb21_100_1 Cb21_100_2 Cb21_100_3 Cb21_100_4
            replace S := Lib.hid S.below
            go_wp2
            go_ret
            exact ⟨rfl, S.out⟩
set_option maxRecDepth 100000 in
theorem walk (w : World) (sa sb : Value) (la lb : List V) (hsa : SeesV w sa la) (hsb : SeesV w sb lb) (n : Int) (hn : (Lit.int .i8 n).wf = true) :
    Calls Tryz.prog 3 #[sa, sb, .int .i8 n] w fun e W' => e = .returned (.bool true) ∧ Below w.heap.size w W' := by
  obtain ⟨b8, hb8⟩ : ∃ b, bits .and .i8 n 8 = b := ⟨_, rfl⟩
  have M0 := Lib.hid (walk_true w sa sb la lb hsa hsb n hn)
  have M1 := Lib.hid (walk_false w sa sb la lb hsa hsb n hn)
  clear hsa hsb hn
  cases hr : (b8 == 8)
  · clear M0
    go_enter Tryz.func3, Tryz.ntmps3
    go_wp2_with fail
    refine M1.out.mono ?_
    rintro e w1 ⟨rfl, b1⟩
    go_wp2
    go_ret
    exact ⟨rfl, b1⟩
  · clear M1
    go_enter Tryz.func3, Tryz.ntmps3
    go_wp2_with fail
    refine M0.out.mono ?_
    rintro e w1 ⟨rfl, b1⟩
    go_wp2
    go_ret
    exact ⟨rfl, b1⟩
set_option maxRecDepth 100000 in
theorem lifted (os : Os) (started : os.Started) (H : Type) (enc : TypeId × Value → H) :
    ReturnsInHanded {} Tryz.checked os 3 .any (Rows.operateSumsSpec.pre6 enc Tryz.prog Tryz.f3 Rows.operateSumsRow.domain false) (Rows.operateSumsSpec.post enc Tryz.prog Tryz.f3 false true false false) := by
  refine law_lift (C := Tryz.checked) own started (by kernel_rfl) Tryz.func3
    (ChangeSpec.witness6 (enc := enc) (C := Tryz.checked) false ⟨#[], #[.slice none 0 0, .slice none 0 0, .int .i8 0], []⟩ 8 (by kernel_rfl) (by kernel_rfl) (by kernel_rfl) (by kernel_rfl))
    (by kernel_rfl) (by kernel_rfl) rfl (fun ds h => by
      match ds, h with
      | [d1, d2, d3], _ => exact ⟨rfl, rfl, rfl⟩) rfl Tryz.underlying4 ?_
  intro W base args ds ps hval hA hlt hwt hsh
  rw [Tryz.params3] at hA hval
  obtain ⟨v0, vs0, d0, ds0, p0, q0, hargs, rfl, rfl, h0, r0⟩ := trodAll_cons hA
  obtain ⟨v1, vs1, d1, ds1, p1, q1, rfl, rfl, rfl, h1, r1⟩ := trodAll_cons r0
  obtain ⟨v2, vs2, d2, ds2, p2, q2, rfl, rfl, rfl, h2, r2⟩ := trodAll_cons r1
  obtain ⟨rfl, rfl, rfl⟩ := trodAll_nil r2
  obtain rfl : args = #[v0, v1, v2] := by cases args; simp_all
  obtain ⟨x0, len0, cap0, rfl⟩ := okWide_slice Tryz.underlying22 (hval 0 22 v0 rfl rfl)
  obtain ⟨fuel0, hf0⟩ := h0
  obtain ⟨l0, s0, g0⟩ := open_vals (v := .slice x0 len0 cap0) hf0
  obtain ⟨x1, len1, cap1, rfl⟩ := okWide_slice Tryz.underlying22 (hval 1 22 v1 rfl rfl)
  obtain ⟨fuel1, hf1⟩ := h1
  obtain ⟨l1, s1, g1⟩ := open_vals (v := .slice x1 len1 cap1) hf1
  obtain ⟨a2, rfl, rfl, rfl, w2⟩ := open_int Tryz.underlying23 (hval 2 23 v2 rfl rfl) h2
  -- WALK
  exact walk W _ _ l0 l1 s0 s1 a2 w2
theorem proved : Rows.OperateSumsSaid :=
  OpenClaim.holds_of_wide 3 Tryz.f3 rfl rfl rfl rfl rfl rfl rfl ⟨rfl, rfl, rfl, rfl, rfl⟩ rfl rfl rfl rfl rfl (by kernel_rfl) Tryz.func3 (by kernel_rfl)
    (of_decide_eq_true (by kernel_rfl)) (by unfold Func.isWrapper; first | (rw [if_pos (by decide +kernel)]; kernel_rfl) | (rw [if_neg (by decide +kernel)]; exact ⟨rfl, rfl⟩))
    (fun os started H enc _ => lifted os started H enc)
#print axioms proved
end Go.Proofs.YtellmfimmghidaaGreat.operateSums
