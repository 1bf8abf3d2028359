/-
  OperateItems: for any values, any value and any place, the law returns true: each item of a row is at its place, what is stored is there, what is taken out is not. No condition.
-/
import Derived.Test.YtellmfimmghidaaGreatShownP
import Derived.Test.YtellmfimmghidaaGreatFrame
import Derived.Test.YtellmfimmghidaaGreatRowF
import Derived.Test.YtellmfimmghidaaGreatLawO
namespace Go.Proofs.YtellmfimmghidaaGreat.operateItems
set_option linter.unusedSimpArgs false
open Go.ChangeShapes Go.WideShapes Go.ChangeAt Go.RowKit
open Go.ChangeMaps (open_string)
set_option linter.unusedVariables false
set_option maxRecDepth 100000 in
set_option maxHeartbeats 12800000 in
theorem walk (w : World) (sl : Value) (l : List V) (hs : SeesV w sl l) (x : V) (t : Int) (ht : (Lit.int .u8 t).wf = true) :
    Calls Tryz.prog 11 #[sl, .agg #[.int .i64 x.kind, .int .i64 x.n, .string x.s], .int .u8 t] w fun e W' => e = .returned (.bool true) ∧ Below w.heap.size w W' := by
  obtain ⟨P, hP⟩ : ∃ P, P = (l.take 8).map plainV := ⟨_, rfl⟩
  have hn : (l.take 8).length = P.length := by rw [hP, List.length_map]
  have h8 : P.length ≤ 8 := by rw [← hn, List.length_take]; omega
  have HP := Lib.hid hP
  have HN := Lib.hid hn
  have H8 := Lib.hid (show P.length ≤ 5000 by omega)
  have HS := Lib.hid hs
  have HT := Lib.hid ht
  have S := Sep.start (Below.refl w.heap.size w)
  obtain ⟨q4, hq4⟩ : ∃ gx_, (w.heap.size) = gx_ := ⟨_, rfl⟩
  replace S := S.alloc (.cells #[.int .i64 x.kind, .int .i64 x.n, .string x.s] 29)
  rw [hq4] at S ⊢
  have M0 := Lib.hid (shown_ok S)
  clear S hs hP hn ht
  go_enter Tryz.func11, Tryz.ntmps11
  go_upto_region 1 with fail
  try simp only [hq4]
  have HQ4 := Lib.hid hq4
  clear hq4
  go_wp2_with fail
  refine M0.out.mono ?_
  rintro e w1 ⟨rfl, S⟩
  clear M0
  have M := Lib.hid S.new
  clear S
  go_wp2_with fail
  refine M.out.mono ?_
  rintro e w2 ⟨h, rfl, S, -⟩
  clear M
  replace S : Sep w (heapR h ⟨[], 0⟩ :: boxV q4 x :: []) _ := S
  replace S : Sep w (heapR h ⟨[], 0⟩ :: boxV q4 x :: []) (w2) := by
    refine (show Sep w ([heapR h ⟨[], 0⟩, boxV q4 x] ++ []) _ from S).perm ?_
    exact List.Perm.append_right [] (perm_of (l := [heapR h ⟨[], 0⟩, boxV q4 x]) [0, 1] (by show (List.range' 0 2).Perm [0, 1]; decide) (by rfl))
  refine named (boxV q4 x :: []) fun b5_2 hb5_2 => ?_
  have Hb5_2 := Lib.hid hb5_2
  have Kb5_2 : Hid (∀ W (Q : List Res), Sep w (Q ++ b5_2) W → True) := Lib.hid fun W Q T => by
    rw [hb5_2] at T
    trivial
  replace S := Lib.hid S
  clear hb5_2
  go_upto_region 5 with fail
  have S1 : Sep w ([heapR h ⟨[], 0⟩] ++ b5_2) (w2) := by rw [Hb5_2.out]; exact S.out
  clear S
  refine regionL (E := [emptyR, heapR h ⟨[], 0⟩]) (base := b5_2) (Sep.putE S1) ?_
  clear S1
  iterate 2 (refine quietL ?_; simp only [Act.put, pa]; try dsimp only [List.set])
  refine detL (.tuple #[.agg #[.int .i64 4, .int .i64 1, .string ⟨#[]⟩], .int .i64 P.length]) [emptyR, heapR h ((⟨[], 0⟩ : HeapM).add (rowO 1 (by decide) P))] (h1 := fun Wx hSw => by (go_simp; refine symCall ?_; have hh := rows_list hSw 1 rfl good_empty (by decide) sl l (HS.out); rw [HN.out, ← HP.out] at hh; exact hh)) (h2 := ?_)
  simp only [Act.put, pa]; try dsimp only [List.set]
  iterate 3 (refine quietL ?_; simp only [Act.put, pa]; try dsimp only [List.set])
  refine allocL 0 rfl (fun q => .pointer (some ⟨q, 0, none⟩)) (.cells #[.int .i64 0, .int .i64 0, .string ⟨#[]⟩] 29) (h1 := fun Wx => by go_simp) (h2 := fun qA2 => ?_)
  simp only [Act.put, pa]; try dsimp only [List.set]
  try simp only [List.set_cons_zero, List.set_cons_succ]
  refine detL undef [boxW qA2 4 1 ⟨#[]⟩, heapR h ((⟨[], 0⟩ : HeapM).add (rowO 1 (by decide) P))] (h1 := fun Wx hSw => by (have hz := hSw.box (b := qA2) (o := objZ) 0 rfl; refine useZ3 hz fun z0 z1 z2 y0 y1 y2 => ?_; go_simp; exact ⟨rfl, hSw.set3 0 rfl (.int .i64 4) (.int .i64 1) (.string ⟨#[]⟩)⟩)) (h2 := ?_)
  simp only [Act.put, pa]; try dsimp only [List.set]
  refine quietL ?_
  simp only [Act.put, pa]; try dsimp only [List.set]
  intro w4 S
  replace S : Sep w (boxW qA2 4 1 ⟨#[]⟩ :: heapR h ((⟨[], 0⟩ : HeapM).add (rowO 1 (by decide) P)) :: boxV q4 x :: []) w4 := by rw [Hb5_2.out] at S; exact S
  clear Hb5_2 Kb5_2
  replace S : Sep w (heapR h ((⟨[], 0⟩ : HeapM).add (rowO 1 (by decide) P)) :: boxW qA2 4 1 ⟨#[]⟩ :: boxV q4 x :: []) (w4) := by
    refine (show Sep w ([boxW qA2 4 1 ⟨#[]⟩, heapR h ((⟨[], 0⟩ : HeapM).add (rowO 1 (by decide) P)), boxV q4 x] ++ []) _ from S).perm ?_
    exact List.Perm.append_right [] (perm_of (l := [boxW qA2 4 1 ⟨#[]⟩, heapR h ((⟨[], 0⟩ : HeapM).add (rowO 1 (by decide) P)), boxV q4 x]) [1, 0, 2] (by show (List.range' 0 3).Perm [1, 0, 2]; decide) (by rfl))
  refine named (boxW qA2 4 1 ⟨#[]⟩ :: boxV q4 x :: []) fun b6_4 hb6_4 => ?_
  have Hb6_4 := Lib.hid hb6_4
  have Kb6_4 : Hid (∀ W (Q : List Res), Sep w (Q ++ b6_4) W → True) := Lib.hid fun W Q T => by
    rw [hb6_4] at T
    trivial
  replace S := Lib.hid S
  clear hb6_4
  go_upto_region 6 with fail
  have S1 : Sep w ([heapR h ((⟨[], 0⟩ : HeapM).add (rowO 1 (by decide) P))] ++ b6_4) (w4) := by rw [Hb6_4.out]; exact S.out
  clear S
  refine regionL (E := [emptyR, heapR h ((⟨[], 0⟩ : HeapM).add (rowO 1 (by decide) P))]) (base := b6_4) (Sep.putE S1) ?_
  clear S1
  iterate 2 (refine quietL ?_; simp only [Act.put, pa]; try dsimp only [List.set])
  refine detL (.tuple #[.agg #[.int .i64 4, .int .i64 2, .string ⟨#[]⟩], .int .i64 P.length]) [emptyR, heapR h (HR P P)] (h1 := fun Wx hSw => by (go_simp; refine symCall ?_; have hh := rows_tuple hSw 1 rfl (((good_empty.add (rowO 1 (by decide) P)).more (by have := H8.out; simp [rowO, ObjM.vals]; omega) : ((⟨[], 0⟩ : HeapM).add (rowO 1 (by decide) P)).Good 10000)) (by decide) sl l (HS.out); rw [HN.out, ← HP.out] at hh; exact hh)) (h2 := ?_)
  simp only [Act.put, pa]; try dsimp only [List.set]
  iterate 3 (refine quietL ?_; simp only [Act.put, pa]; try dsimp only [List.set])
  refine allocL 0 rfl (fun q => .pointer (some ⟨q, 0, none⟩)) (.cells #[.int .i64 0, .int .i64 0, .string ⟨#[]⟩] 29) (h1 := fun Wx => by go_simp) (h2 := fun qB2 => ?_)
  simp only [Act.put, pa]; try dsimp only [List.set]
  try simp only [List.set_cons_zero, List.set_cons_succ]
  refine detL undef [boxW qB2 4 2 ⟨#[]⟩, heapR h (HR P P)] (h1 := fun Wx hSw => by (have hz := hSw.box (b := qB2) (o := objZ) 0 rfl; refine useZ3 hz fun z0 z1 z2 y0 y1 y2 => ?_; go_simp; exact ⟨rfl, hSw.set3 0 rfl (.int .i64 4) (.int .i64 2) (.string ⟨#[]⟩)⟩)) (h2 := ?_)
  simp only [Act.put, pa]; try dsimp only [List.set]
  refine quietL ?_
  simp only [Act.put, pa]; try dsimp only [List.set]
  intro w6 S
  replace S : Sep w (boxW qB2 4 2 ⟨#[]⟩ :: heapR h (HR P P) :: boxW qA2 4 1 ⟨#[]⟩ :: boxV q4 x :: []) w6 := by rw [Hb6_4.out] at S; exact S
  clear Hb6_4 Kb6_4
  refine named (boxW qB2 4 2 ⟨#[]⟩ :: heapR h (HR P P) :: boxW qA2 4 1 ⟨#[]⟩ :: boxV q4 x :: []) fun b7_6 hb7_6 => ?_
  have Hb7_6 := Lib.hid hb7_6
  have Kb7_6 : Hid (∀ W (Q : List Res), Sep w (Q ++ b7_6) W → True) := Lib.hid fun W Q T => by
    rw [hb7_6] at T
    trivial
  have Cb7_6_0 : Hid (∀ W (Q : List Res), Sep w (Q ++ b7_6) W → W.cell? ⟨qA2, 0, none⟩ = some (.int .i64 4) ∧ W.cell? ⟨qA2, 1, none⟩ = some (.int .i64 1) ∧ W.cell? ⟨qA2, 2, none⟩ = some (.string ⟨#[]⟩)) := Lib.hid fun W Q T => by
    rw [hb7_6] at T
    have i0 := T.box (b := qA2) (o := objW 4 1 ⟨#[]⟩) (Q.length + 2) (by rw [List.getElem?_append_right (by omega), Nat.add_sub_cancel_left]; rfl)
    exact ⟨cellAt i0 0 rfl, cellAt i0 1 rfl, cellAt i0 2 rfl⟩
  have KI7_2 : Hid (∀ W (Q : List Res), Sep w (Q ++ b7_6) W → Calls Tryz.prog 31 #[.pointer (some ⟨h, 0, none⟩), .agg #[.int .i64 4, .int .i64 1, .string ⟨#[]⟩]] W fun e W' => ∃ a c, e = .returned (.slice a P.length c) ∧ Sep w (valsR (.slice a P.length c) P :: (Q ++ b7_6)) W') := Lib.hid fun W Q T => by
    rw [Hb7_6.out] at T ⊢
    exact items_at T (Q.length + 1) (by rw [List.getElem?_append_right (by omega), Nat.add_sub_cancel_left]; rfl) (HR_good H8.out H8.out) (by decide) vA P rfl
  replace S := Lib.hid S
  clear hb7_6
  go_upto_region 7 with fail
  have S1 : Sep w ([] ++ b7_6) (w6) := by rw [Hb7_6.out]; exact S.out
  clear S
  refine regionL (E := [emptyR]) (base := b7_6) (Sep.putE S1) ?_
  clear S1
  refine quietL ?_
  simp only [Act.put, pa]; try dsimp only [List.set]
  refine quietL (hy := fun E Wx hSw => by ((refine and3 (Cb7_6_0.out _ _ hSw) fun u0 u1 u2 => ?_); go_simp; exact ⟨rfl, hSw⟩)) (h := ?_)
  simp only [Act.put, pa]; try dsimp only [List.set]
  refine stepL (fun v E1 => ∃ (va_8_1 : Option Addr) (vc_8_1 : Nat), v = .slice va_8_1 P.length vc_8_1 ∧ E1 = [valsR (.slice va_8_1 P.length vc_8_1) P]) (h1 := fun Wx hSw => by (go_simp; refine symCallN ?_; exact (KI7_2.out _ _ hSw).mono fun e W' ⟨a, c, e1, e2⟩ => ⟨_, _, e1, ⟨a, c, rfl, rfl⟩, e2.into 0 rfl⟩)) (h2 := fun v E1 hvE => ?_)
  obtain ⟨va_8_1, vc_8_1, rfl, rfl⟩ := hvE
  simp only [Act.put, pa]; try dsimp only [List.set]
  refine quietL ?_
  simp only [Act.put, pa]; try dsimp only [List.set]
  intro w8 S
  replace S : Sep w (valsR (.slice va_8_1 P.length vc_8_1) P :: boxW qB2 4 2 ⟨#[]⟩ :: heapR h (HR P P) :: boxW qA2 4 1 ⟨#[]⟩ :: boxV q4 x :: []) w8 := by rw [Hb7_6.out] at S; exact S
  clear Hb7_6 Kb7_6 KI7_2 Cb7_6_0
  replace S := Lib.hid S
  go_wp2
  go_loopw [14] (fun s14 wr => ∃ k : Nat, k ≤ P.length ∧ s14 = .int .i64 k ∧ Sep w (valsR (.slice va_8_1 P.length vc_8_1) P :: boxW qB2 4 2 ⟨#[]⟩ :: heapR h (HR P P) :: boxW qA2 4 1 ⟨#[]⟩ :: boxV q4 x :: []) wr) (fun s14 _ => P.length - (intOf s14).toNat)
  case atStart => exact ⟨0, by omega, rfl, S.out⟩
  case round =>
    obtain ⟨k, hk, rfl, S⟩ := hrel
    have HK := Lib.hid hk
    by_cases hlt : k < P.length
    · as_aux_lemma =>
        have hc1 : (k : Int) < P.length := by omega
        obtain ⟨v, hv⟩ : ∃ v, P[k]? = some v := ⟨P[k], by simp [hlt]⟩
        obtain ⟨g, og, rfl⟩ := (S.seesV 0 rfl).some_at (show 0 < P.length by omega)
        have HV := Lib.hid hv
        have hw1 : IntKind.i64.wrap ((k : Int) - P.length) = (k : Int) - P.length := IntWalk.i64_in _ (by omega)
        have HA := Lib.hid (show placeP P.length (k : Int) = k from if_neg (by omega))
        have HB := Lib.hid (show placeP P.length ((k : Int) - P.length) = k by unfold placeP; rw [if_pos (by omega)]; omega)
        have HO1 := Lib.hid (show okI (k : Int) from okI_of (by omega))
        have HO2 := Lib.hid (show okI ((k : Int) - P.length) from okI_of (by omega))
        have hki : (0 : Int) ≤ (k : Int) := by omega
        clear hk hv
        refine named (valsR (.slice (some ⟨g, og, none⟩) P.length vc_8_1) P :: boxW qB2 4 2 ⟨#[]⟩ :: heapR h (HR P P) :: boxW qA2 4 1 ⟨#[]⟩ :: boxV q4 x :: []) fun b11_20 hb11_20 => ?_
        have Hb11_20 := Lib.hid hb11_20
        have Kb11_20 : Hid (∀ W (Q : List Res), Sep w (Q ++ b11_20) W → True) := Lib.hid fun W Q T => by
          rw [hb11_20] at T
          trivial
        have Cb11_20_0 : Hid (∀ W (Q : List Res), Sep w (Q ++ b11_20) W → W.cell? ⟨qA2, 0, none⟩ = some (.int .i64 4) ∧ W.cell? ⟨qA2, 1, none⟩ = some (.int .i64 1) ∧ W.cell? ⟨qA2, 2, none⟩ = some (.string ⟨#[]⟩)) := Lib.hid fun W Q T => by
          rw [hb11_20] at T
          have i0 := T.box (b := qA2) (o := objW 4 1 ⟨#[]⟩) (Q.length + 3) (by rw [List.getElem?_append_right (by omega), Nat.add_sub_cancel_left]; rfl)
          exact ⟨cellAt i0 0 rfl, cellAt i0 1 rfl, cellAt i0 2 rfl⟩
        have K11_3 : Hid (∀ W (Q : List Res), Sep w (Q ++ b11_20) W → Calls Tryz.prog 16 #[.int .i64 k] W fun e W' => e = .returned (.agg #[.int .i64 2, .int .i64 k, .string ⟨#[]⟩]) ∧ Sep w (Q ++ b11_20) W') := Lib.hid fun W Q T => by
          exact (lnum_ok W k).mono fun e W' ⟨e1, e2⟩ => ⟨e1, T.later e2⟩
        have K11_4 : Hid (∀ W (Q : List Res), Sep w (Q ++ b11_20) W → Calls Tryz.prog 34 #[.pointer (some ⟨h, 0, none⟩), .agg #[.int .i64 4, .int .i64 1, .string ⟨#[]⟩], .agg #[.int .i64 2, .int .i64 k, .string ⟨#[]⟩]] W fun e W' => e = .returned (.tuple #[.agg #[.int .i64 v.kind, .int .i64 v.n, .string v.s], excZ]) ∧ Sep w (Q ++ b11_20) W') := Lib.hid fun W Q T => by
          rw [Hb11_20.out] at T ⊢
          exact r_idxA T (Q.length + 2) (by rw [List.getElem?_append_right (by omega), Nat.add_sub_cancel_left]; rfl) H8.out H8.out k HO1.out HV.out HA.out
        replace S := Lib.hid S
        clear hb11_20
        go_upto_region 11 with fail
        go_cut [15, 16] (fun s15 s16 wx => ∃ qq0_11 qq1_11, s15 = .pointer (some ⟨qq0_11, 0, none⟩) ∧ s16 = .pointer (some ⟨qq1_11, 0, none⟩) ∧ Sep w ([boxV qq0_11 v, boxE qq1_11] ++ b11_20) wx)
        case first =>
          have S1 : Sep w ([] ++ b11_20) (wr) := by rw [Hb11_20.out]; exact S.out
          clear S
          refine regionP 8 4 (E := [emptyR, emptyR]) (base := b11_20) (Sep.putE (Sep.putE S1)) ?_
          clear S1
          refine quietP ?_
          simp only [Act.put, pa]; try dsimp only [List.set]
          refine quietP (hy := fun E Wx hSw => by ((refine and3 (Cb11_20_0.out _ _ hSw) fun u0 u1 u2 => ?_); go_simp; exact ⟨rfl, hSw⟩)) (h := ?_)
          simp only [Act.put, pa]; try dsimp only [List.set]
          refine quietP ?_
          simp only [Act.put, pa]; try dsimp only [List.set]
          refine quietP (hy := fun E Wx hSw => by (go_simp; exact symCall (K11_3.out _ _ hSw))) (h := ?_)
          simp only [Act.put, pa]; try dsimp only [List.set]
          refine quietP (hy := fun E Wx hSw => by (go_simp; exact symCall (K11_4.out _ _ hSw))) (h := ?_)
          simp only [Act.put, pa]; try dsimp only [List.set]
          iterate 3 (refine quietP ?_; simp only [Act.put, pa]; try dsimp only [List.set])
          refine endP ?_
          refine readyS [8, 9] ?_
          refine allocS 0 rfl (fun q => .pointer (some ⟨q, 0, none⟩)) (.cells #[.int .i64 0, .int .i64 0, .string ⟨#[]⟩] 29) (h1 := fun Wx => by go_simp) (h2 := fun qa111 => ?_) (hs := ?_)
          · simp only [Act.put, pa]; try dsimp only [List.set]
            try simp only [List.set_cons_zero, List.set_cons_succ]
            refine readyS [9] ?_
            refine allocS 1 rfl (fun q => .pointer (some ⟨q, 0, none⟩)) (.cells #[.string ⟨#[]⟩, .int .i64 0, .int .i64 0, .string ⟨#[]⟩, .bool false] 38) (h1 := fun Wx => by go_simp) (h2 := fun qb112 => ?_) (hs := nilS)
            simp only [Act.put, pa]; try dsimp only [List.set]
            try simp only [List.set_cons_zero, List.set_cons_succ]
            refine readyS [10] ?_
            refine detS undef [boxV qa111 v, boxE qb112] (h1 := fun Wx hSw => by (have hz := hSw.box (b := qa111) (o := objZ) 0 rfl; refine useZ3 hz fun z0 z1 z2 y0 y1 y2 => ?_; go_simp; exact ⟨rfl, hSw.set3 0 rfl (.int .i64 v.kind) (.int .i64 v.n) (.string v.s)⟩)) (h2 := ?_) (hs := nilS)
            simp only [Act.put, pa]; try dsimp only [List.set]
            refine readyS [11] ?_
            refine detS undef [boxV qa111 v, boxE qb112] (h1 := fun Wx hSw => by (have hz := hSw.box (b := qb112) (o := objE) 1 rfl; refine useZ5 hz fun z0 z1 z2 z3 z4 y0 y1 y2 y3 y4 => ?_; go_simp; exact ⟨rfl, hSw.set5 1 rfl (.string ⟨#[]⟩) (.int .i64 0) (.int .i64 0) (.string ⟨#[]⟩) (.bool false)⟩)) (h2 := ?_) (hs := nilS)
            simp only [Act.put, pa]; try dsimp only [List.set]
            refine doneS (h := fun w22 S => ?_)
            go_wp2_with fail
            as_aux_lemma => (go_meet; exact ⟨_, _, rfl, rfl, S⟩)
          refine allocS 1 rfl (fun q => .pointer (some ⟨q, 0, none⟩)) (.cells #[.string ⟨#[]⟩, .int .i64 0, .int .i64 0, .string ⟨#[]⟩, .bool false] 38) (h1 := fun Wx => by go_simp) (h2 := fun qb115 => ?_) (hs := ?_)
          · simp only [Act.put, pa]; try dsimp only [List.set]
            try simp only [List.set_cons_zero, List.set_cons_succ]
            refine readyS [8] ?_
            refine allocS 0 rfl (fun q => .pointer (some ⟨q, 0, none⟩)) (.cells #[.int .i64 0, .int .i64 0, .string ⟨#[]⟩] 29) (h1 := fun Wx => by go_simp) (h2 := fun qa116 => ?_) (hs := nilS)
            simp only [Act.put, pa]; try dsimp only [List.set]
            try simp only [List.set_cons_zero, List.set_cons_succ]
            refine readyS [10] ?_
            refine detS undef [boxV qa116 v, boxE qb115] (h1 := fun Wx hSw => by (have hz := hSw.box (b := qa116) (o := objZ) 0 rfl; refine useZ3 hz fun z0 z1 z2 y0 y1 y2 => ?_; go_simp; exact ⟨rfl, hSw.set3 0 rfl (.int .i64 v.kind) (.int .i64 v.n) (.string v.s)⟩)) (h2 := ?_) (hs := nilS)
            simp only [Act.put, pa]; try dsimp only [List.set]
            refine readyS [11] ?_
            refine detS undef [boxV qa116 v, boxE qb115] (h1 := fun Wx hSw => by (have hz := hSw.box (b := qb115) (o := objE) 1 rfl; refine useZ5 hz fun z0 z1 z2 z3 z4 y0 y1 y2 y3 y4 => ?_; go_simp; exact ⟨rfl, hSw.set5 1 rfl (.string ⟨#[]⟩) (.int .i64 0) (.int .i64 0) (.string ⟨#[]⟩) (.bool false)⟩)) (h2 := ?_) (hs := nilS)
            simp only [Act.put, pa]; try dsimp only [List.set]
            refine doneS (h := fun w22 S => ?_)
            go_wp2_with fail
            as_aux_lemma => (go_meet; exact ⟨_, _, rfl, rfl, S⟩)
          exact nilS
        case rest =>
          obtain ⟨qq0_11, qq1_11, rfl, rfl, S⟩ := hcut
          replace S : Sep w (boxV qq0_11 v :: boxE qq1_11 :: valsR (.slice (some ⟨g, og, none⟩) P.length vc_8_1) P :: boxW qB2 4 2 ⟨#[]⟩ :: heapR h (HR P P) :: boxW qA2 4 1 ⟨#[]⟩ :: boxV q4 x :: []) wc := by rw [Hb11_20.out] at S; exact S
          clear Hb11_20 Kb11_20 K11_3 K11_4 Cb11_20_0
          refine named (boxV qq0_11 v :: boxE qq1_11 :: valsR (.slice (some ⟨g, og, none⟩) P.length vc_8_1) P :: boxW qB2 4 2 ⟨#[]⟩ :: heapR h (HR P P) :: boxW qA2 4 1 ⟨#[]⟩ :: boxV q4 x :: []) fun b12_22 hb12_22 => ?_
          have Hb12_22 := Lib.hid hb12_22
          have Kb12_22 : Hid (∀ W (Q : List Res), Sep w (Q ++ b12_22) W → True) := Lib.hid fun W Q T => by
            rw [hb12_22] at T
            trivial
          have Cb12_22_0 : Hid (∀ W (Q : List Res), Sep w (Q ++ b12_22) W → W.cell? ⟨qB2, 0, none⟩ = some (.int .i64 4) ∧ W.cell? ⟨qB2, 1, none⟩ = some (.int .i64 2) ∧ W.cell? ⟨qB2, 2, none⟩ = some (.string ⟨#[]⟩)) := Lib.hid fun W Q T => by
            rw [hb12_22] at T
            have i0 := T.box (b := qB2) (o := objW 4 2 ⟨#[]⟩) (Q.length + 3) (by rw [List.getElem?_append_right (by omega), Nat.add_sub_cancel_left]; rfl)
            exact ⟨cellAt i0 0 rfl, cellAt i0 1 rfl, cellAt i0 2 rfl⟩
          have K12_5 : Hid (∀ W (Q : List Res), Sep w (Q ++ b12_22) W → Calls Tryz.prog 16 #[.int .i64 ((k : Int) - P.length)] W fun e W' => e = .returned (.agg #[.int .i64 2, .int .i64 ((k : Int) - P.length), .string ⟨#[]⟩]) ∧ Sep w (Q ++ b12_22) W') := Lib.hid fun W Q T => by
            exact (lnum_ok W ((k : Int) - P.length)).mono fun e W' ⟨e1, e2⟩ => ⟨e1, T.later e2⟩
          have K12_6 : Hid (∀ W (Q : List Res), Sep w (Q ++ b12_22) W → Calls Tryz.prog 34 #[.pointer (some ⟨h, 0, none⟩), .agg #[.int .i64 4, .int .i64 2, .string ⟨#[]⟩], .agg #[.int .i64 2, .int .i64 ((k : Int) - P.length), .string ⟨#[]⟩]] W fun e W' => e = .returned (.tuple #[.agg #[.int .i64 v.kind, .int .i64 v.n, .string v.s], excZ]) ∧ Sep w (Q ++ b12_22) W') := Lib.hid fun W Q T => by
            rw [Hb12_22.out] at T ⊢
            exact r_idxB T (Q.length + 4) (by rw [List.getElem?_append_right (by omega), Nat.add_sub_cancel_left]; rfl) H8.out H8.out _ HO2.out HV.out HB.out
          replace S := Lib.hid S
          clear hb12_22
          go_upto_region 12 with fail
          go_cut [17, 18] (fun s17 s18 wx => ∃ qq0_12 qq1_12, s17 = .pointer (some ⟨qq0_12, 0, none⟩) ∧ s18 = .pointer (some ⟨qq1_12, 0, none⟩) ∧ Sep w ([boxV qq0_12 v, boxE qq1_12] ++ b12_22) wx)
          case first =>
            have S1 : Sep w ([] ++ b12_22) (wc) := by rw [Hb12_22.out]; exact S.out
            clear S
            refine regionP 10 4 (E := [emptyR, emptyR]) (base := b12_22) (Sep.putE (Sep.putE S1)) ?_
            clear S1
            refine quietP ?_
            simp only [Act.put, pa]; try dsimp only [List.set]
            refine quietP (hy := fun E Wx hSw => by ((refine and3 (Cb12_22_0.out _ _ hSw) fun u0 u1 u2 => ?_); go_simp; exact ⟨rfl, hSw⟩)) (h := ?_)
            simp only [Act.put, pa]; try dsimp only [List.set]
            iterate 3 (refine quietP ?_; simp only [Act.put, pa]; try dsimp only [List.set])
            refine quietP (hy := fun E Wx hSw => by (go_simp; exact symCall (K12_5.out _ _ hSw))) (h := ?_)
            simp only [Act.put, pa]; try dsimp only [List.set]
            refine quietP (hy := fun E Wx hSw => by (go_simp; exact symCall (K12_6.out _ _ hSw))) (h := ?_)
            simp only [Act.put, pa]; try dsimp only [List.set]
            iterate 3 (refine quietP ?_; simp only [Act.put, pa]; try dsimp only [List.set])
            refine endP ?_
            refine readyS [10, 11] ?_
            refine allocS 0 rfl (fun q => .pointer (some ⟨q, 0, none⟩)) (.cells #[.int .i64 0, .int .i64 0, .string ⟨#[]⟩] 29) (h1 := fun Wx => by go_simp) (h2 := fun qa121 => ?_) (hs := ?_)
            · simp only [Act.put, pa]; try dsimp only [List.set]
              try simp only [List.set_cons_zero, List.set_cons_succ]
              refine readyS [11] ?_
              refine allocS 1 rfl (fun q => .pointer (some ⟨q, 0, none⟩)) (.cells #[.string ⟨#[]⟩, .int .i64 0, .int .i64 0, .string ⟨#[]⟩, .bool false] 38) (h1 := fun Wx => by go_simp) (h2 := fun qb122 => ?_) (hs := nilS)
              simp only [Act.put, pa]; try dsimp only [List.set]
              try simp only [List.set_cons_zero, List.set_cons_succ]
              refine readyS [12] ?_
              refine detS undef [boxV qa121 v, boxE qb122] (h1 := fun Wx hSw => by (have hz := hSw.box (b := qa121) (o := objZ) 0 rfl; refine useZ3 hz fun z0 z1 z2 y0 y1 y2 => ?_; go_simp; exact ⟨rfl, hSw.set3 0 rfl (.int .i64 v.kind) (.int .i64 v.n) (.string v.s)⟩)) (h2 := ?_) (hs := nilS)
              simp only [Act.put, pa]; try dsimp only [List.set]
              refine readyS [13] ?_
              refine detS undef [boxV qa121 v, boxE qb122] (h1 := fun Wx hSw => by (have hz := hSw.box (b := qb122) (o := objE) 1 rfl; refine useZ5 hz fun z0 z1 z2 z3 z4 y0 y1 y2 y3 y4 => ?_; go_simp; exact ⟨rfl, hSw.set5 1 rfl (.string ⟨#[]⟩) (.int .i64 0) (.int .i64 0) (.string ⟨#[]⟩) (.bool false)⟩)) (h2 := ?_) (hs := nilS)
              simp only [Act.put, pa]; try dsimp only [List.set]
              refine doneS (h := fun w24 S => ?_)
              go_wp2_with fail
              as_aux_lemma => (go_meet; exact ⟨_, _, rfl, rfl, S⟩)
            refine allocS 1 rfl (fun q => .pointer (some ⟨q, 0, none⟩)) (.cells #[.string ⟨#[]⟩, .int .i64 0, .int .i64 0, .string ⟨#[]⟩, .bool false] 38) (h1 := fun Wx => by go_simp) (h2 := fun qb125 => ?_) (hs := ?_)
            · simp only [Act.put, pa]; try dsimp only [List.set]
              try simp only [List.set_cons_zero, List.set_cons_succ]
              refine readyS [10] ?_
              refine allocS 0 rfl (fun q => .pointer (some ⟨q, 0, none⟩)) (.cells #[.int .i64 0, .int .i64 0, .string ⟨#[]⟩] 29) (h1 := fun Wx => by go_simp) (h2 := fun qa126 => ?_) (hs := nilS)
              simp only [Act.put, pa]; try dsimp only [List.set]
              try simp only [List.set_cons_zero, List.set_cons_succ]
              refine readyS [12] ?_
              refine detS undef [boxV qa126 v, boxE qb125] (h1 := fun Wx hSw => by (have hz := hSw.box (b := qa126) (o := objZ) 0 rfl; refine useZ3 hz fun z0 z1 z2 y0 y1 y2 => ?_; go_simp; exact ⟨rfl, hSw.set3 0 rfl (.int .i64 v.kind) (.int .i64 v.n) (.string v.s)⟩)) (h2 := ?_) (hs := nilS)
              simp only [Act.put, pa]; try dsimp only [List.set]
              refine readyS [13] ?_
              refine detS undef [boxV qa126 v, boxE qb125] (h1 := fun Wx hSw => by (have hz := hSw.box (b := qb125) (o := objE) 1 rfl; refine useZ5 hz fun z0 z1 z2 z3 z4 y0 y1 y2 y3 y4 => ?_; go_simp; exact ⟨rfl, hSw.set5 1 rfl (.string ⟨#[]⟩) (.int .i64 0) (.int .i64 0) (.string ⟨#[]⟩) (.bool false)⟩)) (h2 := ?_) (hs := nilS)
              simp only [Act.put, pa]; try dsimp only [List.set]
              refine doneS (h := fun w24 S => ?_)
              go_wp2_with fail
              as_aux_lemma => (go_meet; exact ⟨_, _, rfl, rfl, S⟩)
            exact nilS
          case rest =>
            obtain ⟨qq0_12, qq1_12, rfl, rfl, S⟩ := hcut
            replace S : Sep w (boxV qq0_12 v :: boxE qq1_12 :: boxV qq0_11 v :: boxE qq1_11 :: valsR (.slice (some ⟨g, og, none⟩) P.length vc_8_1) P :: boxW qB2 4 2 ⟨#[]⟩ :: heapR h (HR P P) :: boxW qA2 4 1 ⟨#[]⟩ :: boxV q4 x :: []) wc := by rw [Hb12_22.out] at S; exact S
            clear Hb12_22 Kb12_22 K12_5 K12_6 Cb12_22_0
            refine named (boxV qq0_12 v :: boxE qq1_12 :: boxV qq0_11 v :: boxE qq1_11 :: valsR (.slice (some ⟨g, og, none⟩) P.length vc_8_1) P :: boxW qB2 4 2 ⟨#[]⟩ :: heapR h (HR P P) :: boxW qA2 4 1 ⟨#[]⟩ :: boxV q4 x :: []) fun b13_24 hb13_24 => ?_
            have Hb13_24 := Lib.hid hb13_24
            have Kb13_24 : Hid (∀ W (Q : List Res), Sep w (Q ++ b13_24) W → True) := Lib.hid fun W Q T => by
              rw [hb13_24] at T
              trivial
            have Cb13_24_0 : Hid (∀ W (Q : List Res), Sep w (Q ++ b13_24) W → W.cell? ⟨qq0_11, 0, none⟩ = some (.int .i64 v.kind) ∧ W.cell? ⟨qq0_11, 1, none⟩ = some (.int .i64 v.n) ∧ W.cell? ⟨qq0_11, 2, none⟩ = some (.string v.s)) := Lib.hid fun W Q T => by
              rw [hb13_24] at T
              have i0 := T.box (b := qq0_11) (o := objV v) (Q.length + 2) (by rw [List.getElem?_append_right (by omega), Nat.add_sub_cancel_left]; rfl)
              exact ⟨cellAt i0 0 rfl, cellAt i0 1 rfl, cellAt i0 2 rfl⟩
            have Cb13_24_1 : Hid (∀ W (Q : List Res), Sep w (Q ++ b13_24) W → W.cell? ⟨qq0_12, 0, none⟩ = some (.int .i64 v.kind) ∧ W.cell? ⟨qq0_12, 1, none⟩ = some (.int .i64 v.n) ∧ W.cell? ⟨qq0_12, 2, none⟩ = some (.string v.s)) := Lib.hid fun W Q T => by
              rw [hb13_24] at T
              have i0 := T.box (b := qq0_12) (o := objV v) (Q.length + 0) (by rw [List.getElem?_append_right (by omega), Nat.add_sub_cancel_left]; rfl)
              exact ⟨cellAt i0 0 rfl, cellAt i0 1 rfl, cellAt i0 2 rfl⟩
            have Cb13_24_2 : Hid (∀ W (Q : List Res), Sep w (Q ++ b13_24) W → W.cell? ⟨qq1_11, 0, none⟩ = some (.string ⟨#[]⟩) ∧ W.cell? ⟨qq1_11, 1, none⟩ = some (.int .i64 0) ∧ W.cell? ⟨qq1_11, 2, none⟩ = some (.int .i64 0) ∧ W.cell? ⟨qq1_11, 3, none⟩ = some (.string ⟨#[]⟩) ∧ W.cell? ⟨qq1_11, 4, none⟩ = some (.bool false)) := Lib.hid fun W Q T => by
              rw [hb13_24] at T
              have i0 := T.box (b := qq1_11) (o := objE) (Q.length + 3) (by rw [List.getElem?_append_right (by omega), Nat.add_sub_cancel_left]; rfl)
              exact ⟨cellAt i0 0 rfl, cellAt i0 1 rfl, cellAt i0 2 rfl, cellAt i0 3 rfl, cellAt i0 4 rfl⟩
            have Cb13_24_3 : Hid (∀ W (Q : List Res), Sep w (Q ++ b13_24) W → W.cell? ⟨qq1_12, 0, none⟩ = some (.string ⟨#[]⟩) ∧ W.cell? ⟨qq1_12, 1, none⟩ = some (.int .i64 0) ∧ W.cell? ⟨qq1_12, 2, none⟩ = some (.int .i64 0) ∧ W.cell? ⟨qq1_12, 3, none⟩ = some (.string ⟨#[]⟩) ∧ W.cell? ⟨qq1_12, 4, none⟩ = some (.bool false)) := Lib.hid fun W Q T => by
              rw [hb13_24] at T
              have i0 := T.box (b := qq1_12) (o := objE) (Q.length + 1) (by rw [List.getElem?_append_right (by omega), Nat.add_sub_cancel_left]; rfl)
              exact ⟨cellAt i0 0 rfl, cellAt i0 1 rfl, cellAt i0 2 rfl, cellAt i0 3 rfl, cellAt i0 4 rfl⟩
            have K13_1 : Hid (∀ W (Q : List Res), Sep w (Q ++ b13_24) W → Calls Tryz.prog 19 #[excZ] W fun e W' => e = .returned (.bool true) ∧ Sep w (Q ++ b13_24) W') := Lib.hid fun W Q T => by
              exact (none_z W).mono fun e W' ⟨e1, e2⟩ => ⟨e1, T.later e2⟩
            have K13_5 : Hid (∀ W (Q : List Res), Sep w (Q ++ b13_24) W → Calls Tryz.prog 19 #[excZ] W fun e W' => e = .returned (.bool true) ∧ Sep w (Q ++ b13_24) W') := Lib.hid fun W Q T => by
              exact (none_z W).mono fun e W' ⟨e1, e2⟩ => ⟨e1, T.later e2⟩
            have R13_13 : Hid (∀ W (Q : List Res), Sep w (Q ++ b13_24) W → W.cell? ⟨g, og + k * 3, none⟩ = some (.int .i64 v.kind) ∧ W.cell? ⟨g, og + k * 3 + 1, none⟩ = some (.int .i64 v.n) ∧ W.cell? ⟨g, og + k * 3 + 2, none⟩ = some (.string v.s)) := Lib.hid fun W Q T => by rw [Hb13_24.out] at T; exact sepThree T (Q.length + 4) (by rw [List.getElem?_append_right (by omega), Nat.add_sub_cancel_left]; rfl) HV.out
            have R13_21 : Hid (∀ W (Q : List Res), Sep w (Q ++ b13_24) W → W.cell? ⟨g, og + k * 3, none⟩ = some (.int .i64 v.kind) ∧ W.cell? ⟨g, og + k * 3 + 1, none⟩ = some (.int .i64 v.n) ∧ W.cell? ⟨g, og + k * 3 + 2, none⟩ = some (.string v.s)) := Lib.hid fun W Q T => by rw [Hb13_24.out] at T; exact sepThree T (Q.length + 4) (by rw [List.getElem?_append_right (by omega), Nat.add_sub_cancel_left]; rfl) HV.out
            replace S := Lib.hid S
            clear hb13_24
            go_upto_region 13 with fail
            have S1 : Sep w ([] ++ b13_24) (wc) := by rw [Hb13_24.out]; exact S.out
            clear S
            refine regionP 24 0 (E := []) (base := b13_24) S1 ?_
            clear S1
            refine quietP (hy := fun E Wx hSw => by ((refine and5 (Cb13_24_2.out _ _ hSw) fun u0 u1 u2 u3 u4 => ?_); go_simp; exact ⟨rfl, hSw⟩)) (h := ?_)
            simp only [Act.put, pa]; try dsimp only [List.set]
            refine quietP (hy := fun E Wx hSw => by (go_simp; exact symCall (K13_1.out _ _ hSw))) (h := ?_)
            simp only [Act.put, pa]; try dsimp only [List.set]
            iterate 2 (refine quietP ?_; simp only [Act.put, pa]; try dsimp only [List.set])
            refine quietP (hy := fun E Wx hSw => by ((refine and5 (Cb13_24_3.out _ _ hSw) fun u0 u1 u2 u3 u4 => ?_); go_simp; exact ⟨rfl, hSw⟩)) (h := ?_)
            simp only [Act.put, pa]; try dsimp only [List.set]
            refine quietP (hy := fun E Wx hSw => by (go_simp; exact symCall (K13_5.out _ _ hSw))) (h := ?_)
            simp only [Act.put, pa]; try dsimp only [List.set]
            iterate 3 (refine quietP ?_; simp only [Act.put, pa]; try dsimp only [List.set])
            refine quietP (hy := fun E Wx hSw => by ((refine and3 (Cb13_24_0.out _ _ hSw) fun u0 u1 u2 => ?_); go_simp; exact ⟨rfl, hSw⟩)) (h := ?_)
            simp only [Act.put, pa]; try dsimp only [List.set]
            iterate 3 (refine quietP ?_; simp only [Act.put, pa]; try dsimp only [List.set])
            refine quietP (hy := fun E Wx hSw => by ((refine and3 (R13_13.out _ _ hSw) fun u0 u1 u2 => ?_); go_simp; exact ⟨rfl, hSw⟩)) (h := ?_)
            simp only [Act.put, pa]; try dsimp only [List.set]
            iterate 3 (refine quietP ?_; simp only [Act.put, pa]; try dsimp only [List.set])
            refine quietP (hy := fun E Wx hSw => by ((refine and3 (Cb13_24_1.out _ _ hSw) fun u0 u1 u2 => ?_); go_simp; exact ⟨rfl, hSw⟩)) (h := ?_)
            simp only [Act.put, pa]; try dsimp only [List.set]
            iterate 3 (refine quietP ?_; simp only [Act.put, pa]; try dsimp only [List.set])
            refine quietP (hy := fun E Wx hSw => by ((refine and3 (R13_21.out _ _ hSw) fun u0 u1 u2 => ?_); go_simp; exact ⟨rfl, hSw⟩)) (h := ?_)
            simp only [Act.put, pa]; try dsimp only [List.set]
            iterate 2 (refine quietP ?_; simp only [Act.put, pa]; try dsimp only [List.set])
            refine endP ?_
            refine doneS (h := fun w26 S => ?_)
            replace S : Sep w (boxV qq0_12 v :: boxE qq1_12 :: boxV qq0_11 v :: boxE qq1_11 :: valsR (.slice (some ⟨g, og, none⟩) P.length vc_8_1) P :: boxW qB2 4 2 ⟨#[]⟩ :: heapR h (HR P P) :: boxW qA2 4 1 ⟨#[]⟩ :: boxV q4 x :: []) w26 := by rw [Hb13_24.out] at S; exact S
            clear Hb13_24 Kb13_24 K13_1 K13_5 R13_13 R13_21 Cb13_24_0 Cb13_24_1 Cb13_24_2 Cb13_24_3
            replace S : Sep w ([boxV qq0_12 v, boxE qq1_12, boxV qq0_11 v, boxE qq1_11, valsR (.slice (some ⟨g, og, none⟩) P.length vc_8_1) P, boxW qB2 4 2 ⟨#[]⟩, heapR h (HR P P), boxW qA2 4 1 ⟨#[]⟩, boxV q4 x] ++ []) (w26) := by
              refine (show Sep w ([boxV qq0_12 v, boxE qq1_12, boxV qq0_11 v, boxE qq1_11, valsR (.slice (some ⟨g, og, none⟩) P.length vc_8_1) P, boxW qB2 4 2 ⟨#[]⟩, heapR h (HR P P), boxW qA2 4 1 ⟨#[]⟩, boxV q4 x] ++ []) _ from S).perm ?_
              exact List.Perm.append_right [] (perm_of (l := [boxV qq0_12 v, boxE qq1_12, boxV qq0_11 v, boxE qq1_11, valsR (.slice (some ⟨g, og, none⟩) P.length vc_8_1) P, boxW qB2 4 2 ⟨#[]⟩, heapR h (HR P P), boxW qA2 4 1 ⟨#[]⟩, boxV q4 x]) [0, 1, 2, 3, 4, 5, 6, 7, 8] (by show (List.range' 0 9).Perm [0, 1, 2, 3, 4, 5, 6, 7, 8]; decide) (by rfl))
            iterate 4 replace S := S.tail
            replace S : Sep w (valsR (.slice (some ⟨g, og, none⟩) P.length vc_8_1) P :: boxW qB2 4 2 ⟨#[]⟩ :: heapR h (HR P P) :: boxW qA2 4 1 ⟨#[]⟩ :: boxV q4 x :: []) (w26) := S
            replace S := Lib.hid S
            go_wp2
            exact ⟨⟨k + 1, by have := hc1; omega, by go_num, S.out⟩, by simp [intOf]; omega⟩
    ·
      have hkn : k = P.length := by omega
      subst hkn
      clear hlt hk HK
      have hw1 : IntKind.i64.wrap (-(P.length : Int)) = -(P.length : Int) := IntWalk.i64_in _ (by omega)
      have hw2 : IntKind.i64.wrap (-(P.length : Int) - 1) = -(P.length : Int) - 1 := IntWalk.i64_in _ (by omega)
      have HA := Lib.hid (show inP P.length (P.length : Int) = false by unfold inP placeP; rw [if_neg (by omega)]; simp)
      have HB := Lib.hid (show inP P.length (-(P.length : Int) - 1) = false by unfold inP placeP; rw [if_pos (by omega)]; simp; omega)
      have HO1 := Lib.hid (show okI (P.length : Int) from okI_of (by omega))
      have HO2 := Lib.hid (show okI (-(P.length : Int) - 1) from okI_of (by omega))
      refine named (valsR (.slice va_8_1 P.length vc_8_1) P :: boxW qB2 4 2 ⟨#[]⟩ :: heapR h (HR P P) :: boxW qA2 4 1 ⟨#[]⟩ :: boxV q4 x :: []) fun b15_100 hb15_100 => ?_
      have Hb15_100 := Lib.hid hb15_100
      have Kb15_100 : Hid (∀ W (Q : List Res), Sep w (Q ++ b15_100) W → True) := Lib.hid fun W Q T => by
        rw [hb15_100] at T
        trivial
      have Cb15_100_0 : Hid (∀ W (Q : List Res), Sep w (Q ++ b15_100) W → W.cell? ⟨qA2, 0, none⟩ = some (.int .i64 4) ∧ W.cell? ⟨qA2, 1, none⟩ = some (.int .i64 1) ∧ W.cell? ⟨qA2, 2, none⟩ = some (.string ⟨#[]⟩)) := Lib.hid fun W Q T => by
        rw [hb15_100] at T
        have i0 := T.box (b := qA2) (o := objW 4 1 ⟨#[]⟩) (Q.length + 3) (by rw [List.getElem?_append_right (by omega), Nat.add_sub_cancel_left]; rfl)
        exact ⟨cellAt i0 0 rfl, cellAt i0 1 rfl, cellAt i0 2 rfl⟩
      have K15_3 : Hid (∀ W (Q : List Res), Sep w (Q ++ b15_100) W → Calls Tryz.prog 16 #[.int .i64 (P.length : Int)] W fun e W' => e = .returned (.agg #[.int .i64 2, .int .i64 (P.length : Int), .string ⟨#[]⟩]) ∧ Sep w (Q ++ b15_100) W') := Lib.hid fun W Q T => by
        exact (lnum_ok W (P.length : Int)).mono fun e W' ⟨e1, e2⟩ => ⟨e1, T.later e2⟩
      have K15_4 : Hid (∀ W (Q : List Res), Sep w (Q ++ b15_100) W → Calls Tryz.prog 34 #[.pointer (some ⟨h, 0, none⟩), .agg #[.int .i64 4, .int .i64 1, .string ⟨#[]⟩], .agg #[.int .i64 2, .int .i64 (P.length : Int), .string ⟨#[]⟩]] W fun e W' => e = .returned (.tuple #[zeroV, excN indexError]) ∧ Sep w (Q ++ b15_100) W') := Lib.hid fun W Q T => by
        rw [Hb15_100.out] at T ⊢
        exact r_idxA_no T (Q.length + 2) (by rw [List.getElem?_append_right (by omega), Nat.add_sub_cancel_left]; rfl) H8.out H8.out _ HO1.out HA.out
      replace S := Lib.hid S
      clear hb15_100
      go_upto_region 15 with fail
      go_cut [19, 20] (fun s19 s20 wx => ∃ qq0_15 qq1_15, s19 = .pointer (some ⟨qq0_15, 0, none⟩) ∧ s20 = .pointer (some ⟨qq1_15, 0, none⟩) ∧ Sep w ([boxZ qq0_15, boxN qq1_15 indexError] ++ b15_100) wx)
      case first =>
        have S1 : Sep w ([] ++ b15_100) (wr) := by rw [Hb15_100.out]; exact S.out
        clear S
        refine regionP 8 4 (E := [emptyR, emptyR]) (base := b15_100) (Sep.putE (Sep.putE S1)) ?_
        clear S1
        refine quietP ?_
        simp only [Act.put, pa]; try dsimp only [List.set]
        refine quietP (hy := fun E Wx hSw => by ((refine and3 (Cb15_100_0.out _ _ hSw) fun u0 u1 u2 => ?_); go_simp; exact ⟨rfl, hSw⟩)) (h := ?_)
        simp only [Act.put, pa]; try dsimp only [List.set]
        refine quietP ?_
        simp only [Act.put, pa]; try dsimp only [List.set]
        refine quietP (hy := fun E Wx hSw => by (go_simp; exact symCall (K15_3.out _ _ hSw))) (h := ?_)
        simp only [Act.put, pa]; try dsimp only [List.set]
        refine quietP (hy := fun E Wx hSw => by (go_simp; exact symCall (K15_4.out _ _ hSw))) (h := ?_)
        simp only [Act.put, pa]; try dsimp only [List.set]
        iterate 3 (refine quietP ?_; simp only [Act.put, pa]; try dsimp only [List.set])
        refine endP ?_
        refine readyS [8, 9] ?_
        refine allocS 0 rfl (fun q => .pointer (some ⟨q, 0, none⟩)) (.cells #[.int .i64 0, .int .i64 0, .string ⟨#[]⟩] 29) (h1 := fun Wx => by go_simp) (h2 := fun qa151 => ?_) (hs := ?_)
        · simp only [Act.put, pa]; try dsimp only [List.set]
          try simp only [List.set_cons_zero, List.set_cons_succ]
          refine readyS [9] ?_
          refine allocS 1 rfl (fun q => .pointer (some ⟨q, 0, none⟩)) (.cells #[.string ⟨#[]⟩, .int .i64 0, .int .i64 0, .string ⟨#[]⟩, .bool false] 38) (h1 := fun Wx => by go_simp) (h2 := fun qb152 => ?_) (hs := nilS)
          simp only [Act.put, pa]; try dsimp only [List.set]
          try simp only [List.set_cons_zero, List.set_cons_succ]
          refine readyS [10] ?_
          refine detS undef [boxZ qa151, boxE qb152] (h1 := fun Wx hSw => by (have hz := hSw.box (b := qa151) (o := objZ) 0 rfl; refine useZ3 hz fun z0 z1 z2 y0 y1 y2 => ?_; go_simp; exact ⟨rfl, hSw.set3 0 rfl (.int .i64 0) (.int .i64 0) (.string ⟨#[]⟩)⟩)) (h2 := ?_) (hs := nilS)
          simp only [Act.put, pa]; try dsimp only [List.set]
          refine readyS [11] ?_
          refine detS undef [boxZ qa151, boxN qb152 indexError] (h1 := fun Wx hSw => by (have hz := hSw.box (b := qb152) (o := objE) 1 rfl; refine useZ5 hz fun z0 z1 z2 z3 z4 y0 y1 y2 y3 y4 => ?_; go_simp; exact ⟨rfl, hSw.set5 1 rfl (.string indexError) (.int .i64 0) (.int .i64 0) (.string ⟨#[]⟩) (.bool false)⟩)) (h2 := ?_) (hs := nilS)
          simp only [Act.put, pa]; try dsimp only [List.set]
          refine doneS (h := fun w102 S => ?_)
          go_wp2_with fail
          as_aux_lemma => (go_meet; exact ⟨_, _, rfl, rfl, S⟩)
        refine allocS 1 rfl (fun q => .pointer (some ⟨q, 0, none⟩)) (.cells #[.string ⟨#[]⟩, .int .i64 0, .int .i64 0, .string ⟨#[]⟩, .bool false] 38) (h1 := fun Wx => by go_simp) (h2 := fun qb155 => ?_) (hs := ?_)
        · simp only [Act.put, pa]; try dsimp only [List.set]
          try simp only [List.set_cons_zero, List.set_cons_succ]
          refine readyS [8] ?_
          refine allocS 0 rfl (fun q => .pointer (some ⟨q, 0, none⟩)) (.cells #[.int .i64 0, .int .i64 0, .string ⟨#[]⟩] 29) (h1 := fun Wx => by go_simp) (h2 := fun qa156 => ?_) (hs := nilS)
          simp only [Act.put, pa]; try dsimp only [List.set]
          try simp only [List.set_cons_zero, List.set_cons_succ]
          refine readyS [10] ?_
          refine detS undef [boxZ qa156, boxE qb155] (h1 := fun Wx hSw => by (have hz := hSw.box (b := qa156) (o := objZ) 0 rfl; refine useZ3 hz fun z0 z1 z2 y0 y1 y2 => ?_; go_simp; exact ⟨rfl, hSw.set3 0 rfl (.int .i64 0) (.int .i64 0) (.string ⟨#[]⟩)⟩)) (h2 := ?_) (hs := nilS)
          simp only [Act.put, pa]; try dsimp only [List.set]
          refine readyS [11] ?_
          refine detS undef [boxZ qa156, boxN qb155 indexError] (h1 := fun Wx hSw => by (have hz := hSw.box (b := qb155) (o := objE) 1 rfl; refine useZ5 hz fun z0 z1 z2 z3 z4 y0 y1 y2 y3 y4 => ?_; go_simp; exact ⟨rfl, hSw.set5 1 rfl (.string indexError) (.int .i64 0) (.int .i64 0) (.string ⟨#[]⟩) (.bool false)⟩)) (h2 := ?_) (hs := nilS)
          simp only [Act.put, pa]; try dsimp only [List.set]
          refine doneS (h := fun w102 S => ?_)
          go_wp2_with fail
          as_aux_lemma => (go_meet; exact ⟨_, _, rfl, rfl, S⟩)
        exact nilS
      case rest =>
        obtain ⟨qq0_15, qq1_15, rfl, rfl, S⟩ := hcut
        replace S : Sep w (boxZ qq0_15 :: boxN qq1_15 indexError :: valsR (.slice va_8_1 P.length vc_8_1) P :: boxW qB2 4 2 ⟨#[]⟩ :: heapR h (HR P P) :: boxW qA2 4 1 ⟨#[]⟩ :: boxV q4 x :: []) wc := by rw [Hb15_100.out] at S; exact S
        clear Hb15_100 Kb15_100 K15_3 K15_4 Cb15_100_0
        refine named (boxZ qq0_15 :: boxN qq1_15 indexError :: valsR (.slice va_8_1 P.length vc_8_1) P :: boxW qB2 4 2 ⟨#[]⟩ :: heapR h (HR P P) :: boxW qA2 4 1 ⟨#[]⟩ :: boxV q4 x :: []) fun b16_102 hb16_102 => ?_
        have Hb16_102 := Lib.hid hb16_102
        have Kb16_102 : Hid (∀ W (Q : List Res), Sep w (Q ++ b16_102) W → True) := Lib.hid fun W Q T => by
          rw [hb16_102] at T
          trivial
        have Cb16_102_0 : Hid (∀ W (Q : List Res), Sep w (Q ++ b16_102) W → W.cell? ⟨qB2, 0, none⟩ = some (.int .i64 4) ∧ W.cell? ⟨qB2, 1, none⟩ = some (.int .i64 2) ∧ W.cell? ⟨qB2, 2, none⟩ = some (.string ⟨#[]⟩)) := Lib.hid fun W Q T => by
          rw [hb16_102] at T
          have i0 := T.box (b := qB2) (o := objW 4 2 ⟨#[]⟩) (Q.length + 3) (by rw [List.getElem?_append_right (by omega), Nat.add_sub_cancel_left]; rfl)
          exact ⟨cellAt i0 0 rfl, cellAt i0 1 rfl, cellAt i0 2 rfl⟩
        have K16_5 : Hid (∀ W (Q : List Res), Sep w (Q ++ b16_102) W → Calls Tryz.prog 16 #[.int .i64 (-(P.length : Int) - 1)] W fun e W' => e = .returned (.agg #[.int .i64 2, .int .i64 (-(P.length : Int) - 1), .string ⟨#[]⟩]) ∧ Sep w (Q ++ b16_102) W') := Lib.hid fun W Q T => by
          exact (lnum_ok W (-(P.length : Int) - 1)).mono fun e W' ⟨e1, e2⟩ => ⟨e1, T.later e2⟩
        have K16_6 : Hid (∀ W (Q : List Res), Sep w (Q ++ b16_102) W → Calls Tryz.prog 34 #[.pointer (some ⟨h, 0, none⟩), .agg #[.int .i64 4, .int .i64 2, .string ⟨#[]⟩], .agg #[.int .i64 2, .int .i64 (-(P.length : Int) - 1), .string ⟨#[]⟩]] W fun e W' => e = .returned (.tuple #[zeroV, excN indexError]) ∧ Sep w (Q ++ b16_102) W') := Lib.hid fun W Q T => by
          rw [Hb16_102.out] at T ⊢
          exact r_idxB_no T (Q.length + 4) (by rw [List.getElem?_append_right (by omega), Nat.add_sub_cancel_left]; rfl) H8.out H8.out _ HO2.out HB.out
        replace S := Lib.hid S
        clear hb16_102
        go_upto_region 16 with fail
        go_cut [21, 22] (fun s21 s22 wx => ∃ qq0_16 qq1_16, s21 = .pointer (some ⟨qq0_16, 0, none⟩) ∧ s22 = .pointer (some ⟨qq1_16, 0, none⟩) ∧ Sep w ([boxZ qq0_16, boxN qq1_16 indexError] ++ b16_102) wx)
        case first =>
          have S1 : Sep w ([] ++ b16_102) (wc) := by rw [Hb16_102.out]; exact S.out
          clear S
          refine regionP 10 4 (E := [emptyR, emptyR]) (base := b16_102) (Sep.putE (Sep.putE S1)) ?_
          clear S1
          refine quietP ?_
          simp only [Act.put, pa]; try dsimp only [List.set]
          refine quietP (hy := fun E Wx hSw => by ((refine and3 (Cb16_102_0.out _ _ hSw) fun u0 u1 u2 => ?_); go_simp; exact ⟨rfl, hSw⟩)) (h := ?_)
          simp only [Act.put, pa]; try dsimp only [List.set]
          iterate 3 (refine quietP ?_; simp only [Act.put, pa]; try dsimp only [List.set])
          refine quietP (hy := fun E Wx hSw => by (go_simp; exact symCall (K16_5.out _ _ hSw))) (h := ?_)
          simp only [Act.put, pa]; try dsimp only [List.set]
          refine quietP (hy := fun E Wx hSw => by (go_simp; exact symCall (K16_6.out _ _ hSw))) (h := ?_)
          simp only [Act.put, pa]; try dsimp only [List.set]
          iterate 3 (refine quietP ?_; simp only [Act.put, pa]; try dsimp only [List.set])
          refine endP ?_
          refine readyS [10, 11] ?_
          refine allocS 0 rfl (fun q => .pointer (some ⟨q, 0, none⟩)) (.cells #[.int .i64 0, .int .i64 0, .string ⟨#[]⟩] 29) (h1 := fun Wx => by go_simp) (h2 := fun qa161 => ?_) (hs := ?_)
          · simp only [Act.put, pa]; try dsimp only [List.set]
            try simp only [List.set_cons_zero, List.set_cons_succ]
            refine readyS [11] ?_
            refine allocS 1 rfl (fun q => .pointer (some ⟨q, 0, none⟩)) (.cells #[.string ⟨#[]⟩, .int .i64 0, .int .i64 0, .string ⟨#[]⟩, .bool false] 38) (h1 := fun Wx => by go_simp) (h2 := fun qb162 => ?_) (hs := nilS)
            simp only [Act.put, pa]; try dsimp only [List.set]
            try simp only [List.set_cons_zero, List.set_cons_succ]
            refine readyS [12] ?_
            refine detS undef [boxZ qa161, boxE qb162] (h1 := fun Wx hSw => by (have hz := hSw.box (b := qa161) (o := objZ) 0 rfl; refine useZ3 hz fun z0 z1 z2 y0 y1 y2 => ?_; go_simp; exact ⟨rfl, hSw.set3 0 rfl (.int .i64 0) (.int .i64 0) (.string ⟨#[]⟩)⟩)) (h2 := ?_) (hs := nilS)
            simp only [Act.put, pa]; try dsimp only [List.set]
            refine readyS [13] ?_
            refine detS undef [boxZ qa161, boxN qb162 indexError] (h1 := fun Wx hSw => by (have hz := hSw.box (b := qb162) (o := objE) 1 rfl; refine useZ5 hz fun z0 z1 z2 z3 z4 y0 y1 y2 y3 y4 => ?_; go_simp; exact ⟨rfl, hSw.set5 1 rfl (.string indexError) (.int .i64 0) (.int .i64 0) (.string ⟨#[]⟩) (.bool false)⟩)) (h2 := ?_) (hs := nilS)
            simp only [Act.put, pa]; try dsimp only [List.set]
            refine doneS (h := fun w104 S => ?_)
            go_wp2_with fail
            as_aux_lemma => (go_meet; exact ⟨_, _, rfl, rfl, S⟩)
          refine allocS 1 rfl (fun q => .pointer (some ⟨q, 0, none⟩)) (.cells #[.string ⟨#[]⟩, .int .i64 0, .int .i64 0, .string ⟨#[]⟩, .bool false] 38) (h1 := fun Wx => by go_simp) (h2 := fun qb165 => ?_) (hs := ?_)
          · simp only [Act.put, pa]; try dsimp only [List.set]
            try simp only [List.set_cons_zero, List.set_cons_succ]
            refine readyS [10] ?_
            refine allocS 0 rfl (fun q => .pointer (some ⟨q, 0, none⟩)) (.cells #[.int .i64 0, .int .i64 0, .string ⟨#[]⟩] 29) (h1 := fun Wx => by go_simp) (h2 := fun qa166 => ?_) (hs := nilS)
            simp only [Act.put, pa]; try dsimp only [List.set]
            try simp only [List.set_cons_zero, List.set_cons_succ]
            refine readyS [12] ?_
            refine detS undef [boxZ qa166, boxE qb165] (h1 := fun Wx hSw => by (have hz := hSw.box (b := qa166) (o := objZ) 0 rfl; refine useZ3 hz fun z0 z1 z2 y0 y1 y2 => ?_; go_simp; exact ⟨rfl, hSw.set3 0 rfl (.int .i64 0) (.int .i64 0) (.string ⟨#[]⟩)⟩)) (h2 := ?_) (hs := nilS)
            simp only [Act.put, pa]; try dsimp only [List.set]
            refine readyS [13] ?_
            refine detS undef [boxZ qa166, boxN qb165 indexError] (h1 := fun Wx hSw => by (have hz := hSw.box (b := qb165) (o := objE) 1 rfl; refine useZ5 hz fun z0 z1 z2 z3 z4 y0 y1 y2 y3 y4 => ?_; go_simp; exact ⟨rfl, hSw.set5 1 rfl (.string indexError) (.int .i64 0) (.int .i64 0) (.string ⟨#[]⟩) (.bool false)⟩)) (h2 := ?_) (hs := nilS)
            simp only [Act.put, pa]; try dsimp only [List.set]
            refine doneS (h := fun w104 S => ?_)
            go_wp2_with fail
            as_aux_lemma => (go_meet; exact ⟨_, _, rfl, rfl, S⟩)
          exact nilS
        case rest =>
          obtain ⟨qq0_16, qq1_16, rfl, rfl, S⟩ := hcut
          replace S : Sep w (boxZ qq0_16 :: boxN qq1_16 indexError :: boxZ qq0_15 :: boxN qq1_15 indexError :: valsR (.slice va_8_1 P.length vc_8_1) P :: boxW qB2 4 2 ⟨#[]⟩ :: heapR h (HR P P) :: boxW qA2 4 1 ⟨#[]⟩ :: boxV q4 x :: []) wc := by rw [Hb16_102.out] at S; exact S
          clear Hb16_102 Kb16_102 K16_5 K16_6 Cb16_102_0
          refine named (boxZ qq0_16 :: boxN qq1_16 indexError :: boxZ qq0_15 :: boxN qq1_15 indexError :: valsR (.slice va_8_1 P.length vc_8_1) P :: boxW qB2 4 2 ⟨#[]⟩ :: heapR h (HR P P) :: boxW qA2 4 1 ⟨#[]⟩ :: boxV q4 x :: []) fun b17_104 hb17_104 => ?_
          have Hb17_104 := Lib.hid hb17_104
          have Kb17_104 : Hid (∀ W (Q : List Res), Sep w (Q ++ b17_104) W → True) := Lib.hid fun W Q T => by
            rw [hb17_104] at T
            trivial
          have Cb17_104_0 : Hid (∀ W (Q : List Res), Sep w (Q ++ b17_104) W → W.cell? ⟨q4, 0, none⟩ = some (.int .i64 x.kind) ∧ W.cell? ⟨q4, 1, none⟩ = some (.int .i64 x.n) ∧ W.cell? ⟨q4, 2, none⟩ = some (.string x.s)) := Lib.hid fun W Q T => by
            rw [hb17_104] at T
            have i0 := T.box (b := q4) (o := objV x) (Q.length + 8) (by rw [List.getElem?_append_right (by omega), Nat.add_sub_cancel_left]; rfl)
            exact ⟨cellAt i0 0 rfl, cellAt i0 1 rfl, cellAt i0 2 rfl⟩
          have Cb17_104_1 : Hid (∀ W (Q : List Res), Sep w (Q ++ b17_104) W → W.cell? ⟨qB2, 0, none⟩ = some (.int .i64 4) ∧ W.cell? ⟨qB2, 1, none⟩ = some (.int .i64 2) ∧ W.cell? ⟨qB2, 2, none⟩ = some (.string ⟨#[]⟩)) := Lib.hid fun W Q T => by
            rw [hb17_104] at T
            have i0 := T.box (b := qB2) (o := objW 4 2 ⟨#[]⟩) (Q.length + 5) (by rw [List.getElem?_append_right (by omega), Nat.add_sub_cancel_left]; rfl)
            exact ⟨cellAt i0 0 rfl, cellAt i0 1 rfl, cellAt i0 2 rfl⟩
          have K17_2 : Hid (∀ W (Q : List Res), Sep w (Q ++ b17_104) W → Calls Tryz.prog 16 #[.int .i64 0] W fun e W' => e = .returned (.agg #[.int .i64 2, .int .i64 0, .string ⟨#[]⟩]) ∧ Sep w (Q ++ b17_104) W') := Lib.hid fun W Q T => by
            exact (lnum_ok W 0).mono fun e W' ⟨e1, e2⟩ => ⟨e1, T.later e2⟩
          have K17_4 : Hid (∀ W (Q : List Res), Sep w (Q ++ b17_104) W → Calls Tryz.prog 39 #[.pointer (some ⟨h, 0, none⟩), .agg #[.int .i64 4, .int .i64 2, .string ⟨#[]⟩], .agg #[.int .i64 2, .int .i64 0, .string ⟨#[]⟩], .agg #[.int .i64 x.kind, .int .i64 x.n, .string x.s]] W fun e W' => e = .returned (excN typeError) ∧ Sep w (Q ++ b17_104) W') := Lib.hid fun W Q T => by
            rw [Hb17_104.out] at T ⊢
            exact r_setB T (Q.length + 6) (by rw [List.getElem?_append_right (by omega), Nat.add_sub_cancel_left]; rfl) H8.out H8.out 0 (by decide) x
          replace S := Lib.hid S
          clear hb17_104
          go_upto_region 17 with fail
          have S1 : Sep w ([] ++ b17_104) (wc) := by rw [Hb17_104.out]; exact S.out
          clear S
          refine regionP 5 2 (E := [emptyR]) (base := b17_104) (Sep.putE S1) ?_
          clear S1
          refine quietP ?_
          simp only [Act.put, pa]; try dsimp only [List.set]
          refine quietP (hy := fun E Wx hSw => by ((refine and3 (Cb17_104_1.out _ _ hSw) fun u0 u1 u2 => ?_); go_simp; exact ⟨rfl, hSw⟩)) (h := ?_)
          simp only [Act.put, pa]; try dsimp only [List.set]
          refine quietP (hy := fun E Wx hSw => by (go_simp; exact symCall (K17_2.out _ _ hSw))) (h := ?_)
          simp only [Act.put, pa]; try dsimp only [List.set]
          refine quietP (hy := fun E Wx hSw => by ((refine and3 (Cb17_104_0.out _ _ hSw) fun u0 u1 u2 => ?_); go_simp; exact ⟨rfl, hSw⟩)) (h := ?_)
          simp only [Act.put, pa]; try dsimp only [List.set]
          refine quietP (hy := fun E Wx hSw => by (go_simp; exact symCall (K17_4.out _ _ hSw))) (h := ?_)
          simp only [Act.put, pa]; try dsimp only [List.set]
          refine endP ?_
          refine readyS [5] ?_
          refine allocS 0 rfl (fun q => .pointer (some ⟨q, 0, none⟩)) (.cells #[.string ⟨#[]⟩, .int .i64 0, .int .i64 0, .string ⟨#[]⟩, .bool false] 38) (h1 := fun Wx => by go_simp) (h2 := fun qb171 => ?_) (hs := nilS)
          simp only [Act.put, pa]; try dsimp only [List.set]
          try simp only [List.set_cons_zero, List.set_cons_succ]
          refine readyS [6] ?_
          refine detS undef [boxN qb171 typeError] (h1 := fun Wx hSw => by (have hz := hSw.box (b := qb171) (o := objE) 0 rfl; refine useZ5 hz fun z0 z1 z2 z3 z4 y0 y1 y2 y3 y4 => ?_; go_simp; exact ⟨rfl, hSw.set5 0 rfl (.string typeError) (.int .i64 0) (.int .i64 0) (.string ⟨#[]⟩) (.bool false)⟩)) (h2 := ?_) (hs := nilS)
          simp only [Act.put, pa]; try dsimp only [List.set]
          refine doneS (h := fun w106 S => ?_)
          replace S : Sep w (boxN qb171 typeError :: boxZ qq0_16 :: boxN qq1_16 indexError :: boxZ qq0_15 :: boxN qq1_15 indexError :: valsR (.slice va_8_1 P.length vc_8_1) P :: boxW qB2 4 2 ⟨#[]⟩ :: heapR h (HR P P) :: boxW qA2 4 1 ⟨#[]⟩ :: boxV q4 x :: []) w106 := by rw [Hb17_104.out] at S; exact S
          clear Hb17_104 Kb17_104 K17_2 K17_4 Cb17_104_0 Cb17_104_1
          refine named (boxN qb171 typeError :: boxZ qq0_16 :: boxN qq1_16 indexError :: boxZ qq0_15 :: boxN qq1_15 indexError :: valsR (.slice va_8_1 P.length vc_8_1) P :: boxW qB2 4 2 ⟨#[]⟩ :: heapR h (HR P P) :: boxW qA2 4 1 ⟨#[]⟩ :: boxV q4 x :: []) fun b18_106 hb18_106 => ?_
          have Hb18_106 := Lib.hid hb18_106
          have Kb18_106 : Hid (∀ W (Q : List Res), Sep w (Q ++ b18_106) W → True) := Lib.hid fun W Q T => by
            rw [hb18_106] at T
            trivial
          have Cb18_106_0 : Hid (∀ W (Q : List Res), Sep w (Q ++ b18_106) W → W.cell? ⟨qB2, 0, none⟩ = some (.int .i64 4) ∧ W.cell? ⟨qB2, 1, none⟩ = some (.int .i64 2) ∧ W.cell? ⟨qB2, 2, none⟩ = some (.string ⟨#[]⟩)) := Lib.hid fun W Q T => by
            rw [hb18_106] at T
            have i0 := T.box (b := qB2) (o := objW 4 2 ⟨#[]⟩) (Q.length + 6) (by rw [List.getElem?_append_right (by omega), Nat.add_sub_cancel_left]; rfl)
            exact ⟨cellAt i0 0 rfl, cellAt i0 1 rfl, cellAt i0 2 rfl⟩
          have K18_2 : Hid (∀ W (Q : List Res), Sep w (Q ++ b18_106) W → Calls Tryz.prog 16 #[.int .i64 0] W fun e W' => e = .returned (.agg #[.int .i64 2, .int .i64 0, .string ⟨#[]⟩]) ∧ Sep w (Q ++ b18_106) W') := Lib.hid fun W Q T => by
            exact (lnum_ok W 0).mono fun e W' ⟨e1, e2⟩ => ⟨e1, T.later e2⟩
          have K18_3 : Hid (∀ W (Q : List Res), Sep w (Q ++ b18_106) W → Calls Tryz.prog 40 #[.pointer (some ⟨h, 0, none⟩), .agg #[.int .i64 4, .int .i64 2, .string ⟨#[]⟩], .agg #[.int .i64 2, .int .i64 0, .string ⟨#[]⟩]] W fun e W' => e = .returned (excN typeError) ∧ Sep w (Q ++ b18_106) W') := Lib.hid fun W Q T => by
            rw [Hb18_106.out] at T ⊢
            exact r_delB T (Q.length + 7) (by rw [List.getElem?_append_right (by omega), Nat.add_sub_cancel_left]; rfl) H8.out H8.out 0 (by decide)
          replace S := Lib.hid S
          clear hb18_106
          go_upto_region 18 with fail
          have S1 : Sep w ([] ++ b18_106) (w106) := by rw [Hb18_106.out]; exact S.out
          clear S
          refine regionP 4 2 (E := [emptyR]) (base := b18_106) (Sep.putE S1) ?_
          clear S1
          refine quietP ?_
          simp only [Act.put, pa]; try dsimp only [List.set]
          refine quietP (hy := fun E Wx hSw => by ((refine and3 (Cb18_106_0.out _ _ hSw) fun u0 u1 u2 => ?_); go_simp; exact ⟨rfl, hSw⟩)) (h := ?_)
          simp only [Act.put, pa]; try dsimp only [List.set]
          refine quietP (hy := fun E Wx hSw => by (go_simp; exact symCall (K18_2.out _ _ hSw))) (h := ?_)
          simp only [Act.put, pa]; try dsimp only [List.set]
          refine quietP (hy := fun E Wx hSw => by (go_simp; exact symCall (K18_3.out _ _ hSw))) (h := ?_)
          simp only [Act.put, pa]; try dsimp only [List.set]
          refine endP ?_
          refine readyS [4] ?_
          refine allocS 0 rfl (fun q => .pointer (some ⟨q, 0, none⟩)) (.cells #[.string ⟨#[]⟩, .int .i64 0, .int .i64 0, .string ⟨#[]⟩, .bool false] 38) (h1 := fun Wx => by go_simp) (h2 := fun qb181 => ?_) (hs := nilS)
          simp only [Act.put, pa]; try dsimp only [List.set]
          try simp only [List.set_cons_zero, List.set_cons_succ]
          refine readyS [5] ?_
          refine detS undef [boxN qb181 typeError] (h1 := fun Wx hSw => by (have hz := hSw.box (b := qb181) (o := objE) 0 rfl; refine useZ5 hz fun z0 z1 z2 z3 z4 y0 y1 y2 y3 y4 => ?_; go_simp; exact ⟨rfl, hSw.set5 0 rfl (.string typeError) (.int .i64 0) (.int .i64 0) (.string ⟨#[]⟩) (.bool false)⟩)) (h2 := ?_) (hs := nilS)
          simp only [Act.put, pa]; try dsimp only [List.set]
          refine doneS (h := fun w108 S => ?_)
          replace S : Sep w (boxN qb181 typeError :: boxN qb171 typeError :: boxZ qq0_16 :: boxN qq1_16 indexError :: boxZ qq0_15 :: boxN qq1_15 indexError :: valsR (.slice va_8_1 P.length vc_8_1) P :: boxW qB2 4 2 ⟨#[]⟩ :: heapR h (HR P P) :: boxW qA2 4 1 ⟨#[]⟩ :: boxV q4 x :: []) w108 := by rw [Hb18_106.out] at S; exact S
          clear Hb18_106 Kb18_106 K18_2 K18_3 Cb18_106_0
          refine named (boxN qb181 typeError :: boxN qb171 typeError :: boxZ qq0_16 :: boxN qq1_16 indexError :: boxZ qq0_15 :: boxN qq1_15 indexError :: valsR (.slice va_8_1 P.length vc_8_1) P :: boxW qB2 4 2 ⟨#[]⟩ :: heapR h (HR P P) :: boxW qA2 4 1 ⟨#[]⟩ :: boxV q4 x :: []) fun b19_108 hb19_108 => ?_
          have Hb19_108 := Lib.hid hb19_108
          have Kb19_108 : Hid (∀ W (Q : List Res), Sep w (Q ++ b19_108) W → True) := Lib.hid fun W Q T => by
            rw [hb19_108] at T
            trivial
          have K19_1 : Hid (∀ W (Q : List Res), Sep w (Q ++ b19_108) W → Calls Tryz.prog 17 #[.string ⟨#[97, 98, 99]⟩] W fun e W' => e = .returned (.agg #[.int .i64 3, .int .i64 0, .string ⟨#[97, 98, 99]⟩]) ∧ Sep w (Q ++ b19_108) W') := Lib.hid fun W Q T => by
            exact (lstr_ok W ⟨#[97, 98, 99]⟩).mono fun e W' ⟨e1, e2⟩ => ⟨e1, T.later e2⟩
          have K19_2 : Hid (∀ W (Q : List Res), Sep w (Q ++ b19_108) W → Calls Tryz.prog 16 #[.int .i64 0] W fun e W' => e = .returned (.agg #[.int .i64 2, .int .i64 0, .string ⟨#[]⟩]) ∧ Sep w (Q ++ b19_108) W') := Lib.hid fun W Q T => by
            exact (lnum_ok W 0).mono fun e W' ⟨e1, e2⟩ => ⟨e1, T.later e2⟩
          have K19_3 : Hid (∀ W (Q : List Res), Sep w (Q ++ b19_108) W → Calls Tryz.prog 17 #[.string ⟨#[120]⟩] W fun e W' => e = .returned (.agg #[.int .i64 3, .int .i64 0, .string ⟨#[120]⟩]) ∧ Sep w (Q ++ b19_108) W') := Lib.hid fun W Q T => by
            exact (lstr_ok W ⟨#[120]⟩).mono fun e W' ⟨e1, e2⟩ => ⟨e1, T.later e2⟩
          have K19_4 : Hid (∀ W (Q : List Res), Sep w (Q ++ b19_108) W → Calls Tryz.prog 39 #[.pointer (some ⟨h, 0, none⟩), .agg #[.int .i64 3, .int .i64 0, .string ⟨#[97, 98, 99]⟩], .agg #[.int .i64 2, .int .i64 0, .string ⟨#[]⟩], .agg #[.int .i64 3, .int .i64 0, .string ⟨#[120]⟩]] W fun e W' => e = .returned (excN typeError) ∧ Sep w (Q ++ b19_108) W') := Lib.hid fun W Q T => by
            rw [Hb19_108.out] at T ⊢
            exact r_setS T (Q.length + 8) (by rw [List.getElem?_append_right (by omega), Nat.add_sub_cancel_left]; rfl) H8.out H8.out (vS ⟨#[97, 98, 99]⟩ (by decide)) (vI 0 (by decide)) (vS ⟨#[120]⟩ (by decide)) (show ¬ (3 : Int) = 4 by decide)
          replace S := Lib.hid S
          clear hb19_108
          go_upto_region 19 with fail
          have S1 : Sep w ([] ++ b19_108) (w108) := by rw [Hb19_108.out]; exact S.out
          clear S
          refine regionL (E := [emptyR]) (base := b19_108) (Sep.putE S1) ?_
          clear S1
          refine quietL ?_
          simp only [Act.put, pa]; try dsimp only [List.set]
          refine quietL (hy := fun E Wx hSw => by (go_simp; exact symCall (K19_1.out _ _ hSw))) (h := ?_)
          simp only [Act.put, pa]; try dsimp only [List.set]
          refine quietL (hy := fun E Wx hSw => by (go_simp; exact symCall (K19_2.out _ _ hSw))) (h := ?_)
          simp only [Act.put, pa]; try dsimp only [List.set]
          refine quietL (hy := fun E Wx hSw => by (go_simp; exact symCall (K19_3.out _ _ hSw))) (h := ?_)
          simp only [Act.put, pa]; try dsimp only [List.set]
          refine quietL (hy := fun E Wx hSw => by (go_simp; exact symCall (K19_4.out _ _ hSw))) (h := ?_)
          simp only [Act.put, pa]; try dsimp only [List.set]
          refine allocL 0 rfl (fun q => .pointer (some ⟨q, 0, none⟩)) (.cells #[.string ⟨#[]⟩, .int .i64 0, .int .i64 0, .string ⟨#[]⟩, .bool false] 38) (h1 := fun Wx => by go_simp) (h2 := fun qb191 => ?_)
          simp only [Act.put, pa]; try dsimp only [List.set]
          try simp only [List.set_cons_zero, List.set_cons_succ]
          refine detL undef [boxN qb191 typeError] (h1 := fun Wx hSw => by (have hz := hSw.box (b := qb191) (o := objE) 0 rfl; refine useZ5 hz fun z0 z1 z2 z3 z4 y0 y1 y2 y3 y4 => ?_; go_simp; exact ⟨rfl, hSw.set5 0 rfl (.string typeError) (.int .i64 0) (.int .i64 0) (.string ⟨#[]⟩) (.bool false)⟩)) (h2 := ?_)
          simp only [Act.put, pa]; try dsimp only [List.set]
          intro w110 S
          replace S : Sep w (boxN qb191 typeError :: boxN qb181 typeError :: boxN qb171 typeError :: boxZ qq0_16 :: boxN qq1_16 indexError :: boxZ qq0_15 :: boxN qq1_15 indexError :: valsR (.slice va_8_1 P.length vc_8_1) P :: boxW qB2 4 2 ⟨#[]⟩ :: heapR h (HR P P) :: boxW qA2 4 1 ⟨#[]⟩ :: boxV q4 x :: []) w110 := by rw [Hb19_108.out] at S; exact S
          clear Hb19_108 Kb19_108 K19_1 K19_2 K19_3 K19_4
          refine named (boxN qb191 typeError :: boxN qb181 typeError :: boxN qb171 typeError :: boxZ qq0_16 :: boxN qq1_16 indexError :: boxZ qq0_15 :: boxN qq1_15 indexError :: valsR (.slice va_8_1 P.length vc_8_1) P :: boxW qB2 4 2 ⟨#[]⟩ :: heapR h (HR P P) :: boxW qA2 4 1 ⟨#[]⟩ :: boxV q4 x :: []) fun b20_110 hb20_110 => ?_
          have Hb20_110 := Lib.hid hb20_110
          have Kb20_110 : Hid (∀ W (Q : List Res), Sep w (Q ++ b20_110) W → True) := Lib.hid fun W Q T => by
            rw [hb20_110] at T
            trivial
          have Cb20_110_0 : Hid (∀ W (Q : List Res), Sep w (Q ++ b20_110) W → W.cell? ⟨q4, 0, none⟩ = some (.int .i64 x.kind) ∧ W.cell? ⟨q4, 1, none⟩ = some (.int .i64 x.n) ∧ W.cell? ⟨q4, 2, none⟩ = some (.string x.s)) := Lib.hid fun W Q T => by
            rw [hb20_110] at T
            have i0 := T.box (b := q4) (o := objV x) (Q.length + 11) (by rw [List.getElem?_append_right (by omega), Nat.add_sub_cancel_left]; rfl)
            exact ⟨cellAt i0 0 rfl, cellAt i0 1 rfl, cellAt i0 2 rfl⟩
          have Cb20_110_1 : Hid (∀ W (Q : List Res), Sep w (Q ++ b20_110) W → W.cell? ⟨qA2, 0, none⟩ = some (.int .i64 4) ∧ W.cell? ⟨qA2, 1, none⟩ = some (.int .i64 1) ∧ W.cell? ⟨qA2, 2, none⟩ = some (.string ⟨#[]⟩)) := Lib.hid fun W Q T => by
            rw [hb20_110] at T
            have i0 := T.box (b := qA2) (o := objW 4 1 ⟨#[]⟩) (Q.length + 10) (by rw [List.getElem?_append_right (by omega), Nat.add_sub_cancel_left]; rfl)
            exact ⟨cellAt i0 0 rfl, cellAt i0 1 rfl, cellAt i0 2 rfl⟩
          have K20_3 : Hid (∀ W (Q : List Res), Sep w (Q ++ b20_110) W → Calls Tryz.prog 16 #[.int .i64 (P.length : Int)] W fun e W' => e = .returned (.agg #[.int .i64 2, .int .i64 (P.length : Int), .string ⟨#[]⟩]) ∧ Sep w (Q ++ b20_110) W') := Lib.hid fun W Q T => by
            exact (lnum_ok W (P.length : Int)).mono fun e W' ⟨e1, e2⟩ => ⟨e1, T.later e2⟩
          have K20_5 : Hid (∀ W (Q : List Res), Sep w (Q ++ b20_110) W → Calls Tryz.prog 39 #[.pointer (some ⟨h, 0, none⟩), .agg #[.int .i64 4, .int .i64 1, .string ⟨#[]⟩], .agg #[.int .i64 2, .int .i64 (P.length : Int), .string ⟨#[]⟩], .agg #[.int .i64 x.kind, .int .i64 x.n, .string x.s]] W fun e W' => e = .returned (excN indexError) ∧ Sep w (Q ++ b20_110) W') := Lib.hid fun W Q T => by
            rw [Hb20_110.out] at T ⊢
            exact r_setA_no T (Q.length + 9) (by rw [List.getElem?_append_right (by omega), Nat.add_sub_cancel_left]; rfl) H8.out H8.out _ HO1.out x HA.out
          replace S := Lib.hid S
          clear hb20_110
          go_upto_region 20 with fail
          have S1 : Sep w ([] ++ b20_110) (w110) := by rw [Hb20_110.out]; exact S.out
          clear S
          refine regionP 6 2 (E := [emptyR]) (base := b20_110) (Sep.putE S1) ?_
          clear S1
          refine quietP ?_
          simp only [Act.put, pa]; try dsimp only [List.set]
          refine quietP (hy := fun E Wx hSw => by ((refine and3 (Cb20_110_1.out _ _ hSw) fun u0 u1 u2 => ?_); go_simp; exact ⟨rfl, hSw⟩)) (h := ?_)
          simp only [Act.put, pa]; try dsimp only [List.set]
          refine quietP ?_
          simp only [Act.put, pa]; try dsimp only [List.set]
          refine quietP (hy := fun E Wx hSw => by (go_simp; exact symCall (K20_3.out _ _ hSw))) (h := ?_)
          simp only [Act.put, pa]; try dsimp only [List.set]
          refine quietP (hy := fun E Wx hSw => by ((refine and3 (Cb20_110_0.out _ _ hSw) fun u0 u1 u2 => ?_); go_simp; exact ⟨rfl, hSw⟩)) (h := ?_)
          simp only [Act.put, pa]; try dsimp only [List.set]
          refine quietP (hy := fun E Wx hSw => by (go_simp; exact symCall (K20_5.out _ _ hSw))) (h := ?_)
          simp only [Act.put, pa]; try dsimp only [List.set]
          refine endP ?_
          refine readyS [6] ?_
          refine allocS 0 rfl (fun q => .pointer (some ⟨q, 0, none⟩)) (.cells #[.string ⟨#[]⟩, .int .i64 0, .int .i64 0, .string ⟨#[]⟩, .bool false] 38) (h1 := fun Wx => by go_simp) (h2 := fun qb201 => ?_) (hs := nilS)
          simp only [Act.put, pa]; try dsimp only [List.set]
          try simp only [List.set_cons_zero, List.set_cons_succ]
          refine readyS [7] ?_
          refine detS undef [boxN qb201 indexError] (h1 := fun Wx hSw => by (have hz := hSw.box (b := qb201) (o := objE) 0 rfl; refine useZ5 hz fun z0 z1 z2 z3 z4 y0 y1 y2 y3 y4 => ?_; go_simp; exact ⟨rfl, hSw.set5 0 rfl (.string indexError) (.int .i64 0) (.int .i64 0) (.string ⟨#[]⟩) (.bool false)⟩)) (h2 := ?_) (hs := nilS)
          simp only [Act.put, pa]; try dsimp only [List.set]
          refine doneS (h := fun w112 S => ?_)
          replace S : Sep w (boxN qb201 indexError :: boxN qb191 typeError :: boxN qb181 typeError :: boxN qb171 typeError :: boxZ qq0_16 :: boxN qq1_16 indexError :: boxZ qq0_15 :: boxN qq1_15 indexError :: valsR (.slice va_8_1 P.length vc_8_1) P :: boxW qB2 4 2 ⟨#[]⟩ :: heapR h (HR P P) :: boxW qA2 4 1 ⟨#[]⟩ :: boxV q4 x :: []) w112 := by rw [Hb20_110.out] at S; exact S
          clear Hb20_110 Kb20_110 K20_3 K20_5 Cb20_110_0 Cb20_110_1
          refine named (boxN qb201 indexError :: boxN qb191 typeError :: boxN qb181 typeError :: boxN qb171 typeError :: boxZ qq0_16 :: boxN qq1_16 indexError :: boxZ qq0_15 :: boxN qq1_15 indexError :: valsR (.slice va_8_1 P.length vc_8_1) P :: boxW qB2 4 2 ⟨#[]⟩ :: heapR h (HR P P) :: boxW qA2 4 1 ⟨#[]⟩ :: boxV q4 x :: []) fun b21_112 hb21_112 => ?_
          have Hb21_112 := Lib.hid hb21_112
          have Kb21_112 : Hid (∀ W (Q : List Res), Sep w (Q ++ b21_112) W → True) := Lib.hid fun W Q T => by
            rw [hb21_112] at T
            trivial
          have Cb21_112_0 : Hid (∀ W (Q : List Res), Sep w (Q ++ b21_112) W → W.cell? ⟨qB2, 0, none⟩ = some (.int .i64 4) ∧ W.cell? ⟨qB2, 1, none⟩ = some (.int .i64 2) ∧ W.cell? ⟨qB2, 2, none⟩ = some (.string ⟨#[]⟩)) := Lib.hid fun W Q T => by
            rw [hb21_112] at T
            have i0 := T.box (b := qB2) (o := objW 4 2 ⟨#[]⟩) (Q.length + 9) (by rw [List.getElem?_append_right (by omega), Nat.add_sub_cancel_left]; rfl)
            exact ⟨cellAt i0 0 rfl, cellAt i0 1 rfl, cellAt i0 2 rfl⟩
          have Cb21_112_1 : Hid (∀ W (Q : List Res), Sep w (Q ++ b21_112) W → W.cell? ⟨qb171, 0, none⟩ = some (.string typeError) ∧ W.cell? ⟨qb171, 1, none⟩ = some (.int .i64 0) ∧ W.cell? ⟨qb171, 2, none⟩ = some (.int .i64 0) ∧ W.cell? ⟨qb171, 3, none⟩ = some (.string ⟨#[]⟩) ∧ W.cell? ⟨qb171, 4, none⟩ = some (.bool false)) := Lib.hid fun W Q T => by
            rw [hb21_112] at T
            have i0 := T.box (b := qb171) (o := objN typeError) (Q.length + 3) (by rw [List.getElem?_append_right (by omega), Nat.add_sub_cancel_left]; rfl)
            exact ⟨cellAt i0 0 rfl, cellAt i0 1 rfl, cellAt i0 2 rfl, cellAt i0 3 rfl, cellAt i0 4 rfl⟩
          have Cb21_112_2 : Hid (∀ W (Q : List Res), Sep w (Q ++ b21_112) W → W.cell? ⟨qb181, 0, none⟩ = some (.string typeError) ∧ W.cell? ⟨qb181, 1, none⟩ = some (.int .i64 0) ∧ W.cell? ⟨qb181, 2, none⟩ = some (.int .i64 0) ∧ W.cell? ⟨qb181, 3, none⟩ = some (.string ⟨#[]⟩) ∧ W.cell? ⟨qb181, 4, none⟩ = some (.bool false)) := Lib.hid fun W Q T => by
            rw [hb21_112] at T
            have i0 := T.box (b := qb181) (o := objN typeError) (Q.length + 2) (by rw [List.getElem?_append_right (by omega), Nat.add_sub_cancel_left]; rfl)
            exact ⟨cellAt i0 0 rfl, cellAt i0 1 rfl, cellAt i0 2 rfl, cellAt i0 3 rfl, cellAt i0 4 rfl⟩
          have Cb21_112_3 : Hid (∀ W (Q : List Res), Sep w (Q ++ b21_112) W → W.cell? ⟨qb191, 0, none⟩ = some (.string typeError) ∧ W.cell? ⟨qb191, 1, none⟩ = some (.int .i64 0) ∧ W.cell? ⟨qb191, 2, none⟩ = some (.int .i64 0) ∧ W.cell? ⟨qb191, 3, none⟩ = some (.string ⟨#[]⟩) ∧ W.cell? ⟨qb191, 4, none⟩ = some (.bool false)) := Lib.hid fun W Q T => by
            rw [hb21_112] at T
            have i0 := T.box (b := qb191) (o := objN typeError) (Q.length + 1) (by rw [List.getElem?_append_right (by omega), Nat.add_sub_cancel_left]; rfl)
            exact ⟨cellAt i0 0 rfl, cellAt i0 1 rfl, cellAt i0 2 rfl, cellAt i0 3 rfl, cellAt i0 4 rfl⟩
          have Cb21_112_4 : Hid (∀ W (Q : List Res), Sep w (Q ++ b21_112) W → W.cell? ⟨qb201, 0, none⟩ = some (.string indexError) ∧ W.cell? ⟨qb201, 1, none⟩ = some (.int .i64 0) ∧ W.cell? ⟨qb201, 2, none⟩ = some (.int .i64 0) ∧ W.cell? ⟨qb201, 3, none⟩ = some (.string ⟨#[]⟩) ∧ W.cell? ⟨qb201, 4, none⟩ = some (.bool false)) := Lib.hid fun W Q T => by
            rw [hb21_112] at T
            have i0 := T.box (b := qb201) (o := objN indexError) (Q.length + 0) (by rw [List.getElem?_append_right (by omega), Nat.add_sub_cancel_left]; rfl)
            exact ⟨cellAt i0 0 rfl, cellAt i0 1 rfl, cellAt i0 2 rfl, cellAt i0 3 rfl, cellAt i0 4 rfl⟩
          have Cb21_112_5 : Hid (∀ W (Q : List Res), Sep w (Q ++ b21_112) W → W.cell? ⟨qq1_15, 0, none⟩ = some (.string indexError) ∧ W.cell? ⟨qq1_15, 1, none⟩ = some (.int .i64 0) ∧ W.cell? ⟨qq1_15, 2, none⟩ = some (.int .i64 0) ∧ W.cell? ⟨qq1_15, 3, none⟩ = some (.string ⟨#[]⟩) ∧ W.cell? ⟨qq1_15, 4, none⟩ = some (.bool false)) := Lib.hid fun W Q T => by
            rw [hb21_112] at T
            have i0 := T.box (b := qq1_15) (o := objN indexError) (Q.length + 7) (by rw [List.getElem?_append_right (by omega), Nat.add_sub_cancel_left]; rfl)
            exact ⟨cellAt i0 0 rfl, cellAt i0 1 rfl, cellAt i0 2 rfl, cellAt i0 3 rfl, cellAt i0 4 rfl⟩
          have Cb21_112_6 : Hid (∀ W (Q : List Res), Sep w (Q ++ b21_112) W → W.cell? ⟨qq1_16, 0, none⟩ = some (.string indexError) ∧ W.cell? ⟨qq1_16, 1, none⟩ = some (.int .i64 0) ∧ W.cell? ⟨qq1_16, 2, none⟩ = some (.int .i64 0) ∧ W.cell? ⟨qq1_16, 3, none⟩ = some (.string ⟨#[]⟩) ∧ W.cell? ⟨qq1_16, 4, none⟩ = some (.bool false)) := Lib.hid fun W Q T => by
            rw [hb21_112] at T
            have i0 := T.box (b := qq1_16) (o := objN indexError) (Q.length + 5) (by rw [List.getElem?_append_right (by omega), Nat.add_sub_cancel_left]; rfl)
            exact ⟨cellAt i0 0 rfl, cellAt i0 1 rfl, cellAt i0 2 rfl, cellAt i0 3 rfl, cellAt i0 4 rfl⟩
          have K21_1 : Hid (∀ W (Q : List Res), Sep w (Q ++ b21_112) W → Calls Tryz.prog 21 #[excN indexError, .string indexError] W fun e W' => e = .returned (.bool true) ∧ Sep w (Q ++ b21_112) W') := Lib.hid fun W Q T => by
            exact (raised_index W).mono fun e W' ⟨e1, e2⟩ => ⟨e1, T.later e2⟩
          have K21_5 : Hid (∀ W (Q : List Res), Sep w (Q ++ b21_112) W → Calls Tryz.prog 21 #[excN indexError, .string indexError] W fun e W' => e = .returned (.bool true) ∧ Sep w (Q ++ b21_112) W') := Lib.hid fun W Q T => by
            exact (raised_index W).mono fun e W' ⟨e1, e2⟩ => ⟨e1, T.later e2⟩
          have K21_10 : Hid (∀ W (Q : List Res), Sep w (Q ++ b21_112) W → Calls Tryz.prog 21 #[excN typeError, .string typeError] W fun e W' => e = .returned (.bool true) ∧ Sep w (Q ++ b21_112) W') := Lib.hid fun W Q T => by
            exact (raised_type W).mono fun e W' ⟨e1, e2⟩ => ⟨e1, T.later e2⟩
          have K21_15 : Hid (∀ W (Q : List Res), Sep w (Q ++ b21_112) W → Calls Tryz.prog 21 #[excN typeError, .string typeError] W fun e W' => e = .returned (.bool true) ∧ Sep w (Q ++ b21_112) W') := Lib.hid fun W Q T => by
            exact (raised_type W).mono fun e W' ⟨e1, e2⟩ => ⟨e1, T.later e2⟩
          have K21_20 : Hid (∀ W (Q : List Res), Sep w (Q ++ b21_112) W → Calls Tryz.prog 21 #[excN typeError, .string typeError] W fun e W' => e = .returned (.bool true) ∧ Sep w (Q ++ b21_112) W') := Lib.hid fun W Q T => by
            exact (raised_type W).mono fun e W' ⟨e1, e2⟩ => ⟨e1, T.later e2⟩
          have K21_25 : Hid (∀ W (Q : List Res), Sep w (Q ++ b21_112) W → Calls Tryz.prog 21 #[excN indexError, .string indexError] W fun e W' => e = .returned (.bool true) ∧ Sep w (Q ++ b21_112) W') := Lib.hid fun W Q T => by
            exact (raised_index W).mono fun e W' ⟨e1, e2⟩ => ⟨e1, T.later e2⟩
          have KI21_31 : Hid (∀ W (Q : List Res), Sep w (Q ++ b21_112) W → Calls Tryz.prog 31 #[.pointer (some ⟨h, 0, none⟩), .agg #[.int .i64 4, .int .i64 2, .string ⟨#[]⟩]] W fun e W' => ∃ a c, e = .returned (.slice a P.length c) ∧ Sep w (valsR (.slice a P.length c) P :: (Q ++ b21_112)) W') := Lib.hid fun W Q T => by
            rw [Hb21_112.out] at T ⊢
            exact items_at T (Q.length + 10) (by rw [List.getElem?_append_right (by omega), Nat.add_sub_cancel_left]; rfl) (HR_good H8.out H8.out) (by decide) vB P rfl
          have KW : Hid (∀ W (Q : List Res), Sep w (Q ++ b21_112) W → SeesV W (.slice va_8_1 P.length vc_8_1) P) := Lib.hid fun W Q T => by rw [Hb21_112.out] at T; exact T.seesV (Q.length + 8) (by rw [List.getElem?_append_right (by omega), Nat.add_sub_cancel_left]; rfl)
          replace S := Lib.hid S
          clear hb21_112
          go_upto_region 21 with fail
          have S1 : Sep w ([] ++ b21_112) (w112) := by rw [Hb21_112.out]; exact S.out
          clear S
          refine regionL (E := [emptyR]) (base := b21_112) (Sep.putE S1) ?_
          clear S1
          refine quietL (hy := fun E Wx hSw => by ((refine and5 (Cb21_112_5.out _ _ hSw) fun u0 u1 u2 u3 u4 => ?_); go_simp; exact ⟨rfl, hSw⟩)) (h := ?_)
          simp only [Act.put, pa]; try dsimp only [List.set]
          refine quietL (hy := fun E Wx hSw => by (go_simp; exact symCall (K21_1.out _ _ hSw))) (h := ?_)
          simp only [Act.put, pa]; try dsimp only [List.set]
          iterate 2 (refine quietL ?_; simp only [Act.put, pa]; try dsimp only [List.set])
          refine quietL (hy := fun E Wx hSw => by ((refine and5 (Cb21_112_6.out _ _ hSw) fun u0 u1 u2 u3 u4 => ?_); go_simp; exact ⟨rfl, hSw⟩)) (h := ?_)
          simp only [Act.put, pa]; try dsimp only [List.set]
          refine quietL (hy := fun E Wx hSw => by (go_simp; exact symCall (K21_5.out _ _ hSw))) (h := ?_)
          simp only [Act.put, pa]; try dsimp only [List.set]
          iterate 3 (refine quietL ?_; simp only [Act.put, pa]; try dsimp only [List.set])
          refine quietL (hy := fun E Wx hSw => by ((refine and5 (Cb21_112_1.out _ _ hSw) fun u0 u1 u2 u3 u4 => ?_); go_simp; exact ⟨rfl, hSw⟩)) (h := ?_)
          simp only [Act.put, pa]; try dsimp only [List.set]
          refine quietL (hy := fun E Wx hSw => by (go_simp; exact symCall (K21_10.out _ _ hSw))) (h := ?_)
          simp only [Act.put, pa]; try dsimp only [List.set]
          iterate 3 (refine quietL ?_; simp only [Act.put, pa]; try dsimp only [List.set])
          refine quietL (hy := fun E Wx hSw => by ((refine and5 (Cb21_112_2.out _ _ hSw) fun u0 u1 u2 u3 u4 => ?_); go_simp; exact ⟨rfl, hSw⟩)) (h := ?_)
          simp only [Act.put, pa]; try dsimp only [List.set]
          refine quietL (hy := fun E Wx hSw => by (go_simp; exact symCall (K21_15.out _ _ hSw))) (h := ?_)
          simp only [Act.put, pa]; try dsimp only [List.set]
          iterate 3 (refine quietL ?_; simp only [Act.put, pa]; try dsimp only [List.set])
          refine quietL (hy := fun E Wx hSw => by ((refine and5 (Cb21_112_3.out _ _ hSw) fun u0 u1 u2 u3 u4 => ?_); go_simp; exact ⟨rfl, hSw⟩)) (h := ?_)
          simp only [Act.put, pa]; try dsimp only [List.set]
          refine quietL (hy := fun E Wx hSw => by (go_simp; exact symCall (K21_20.out _ _ hSw))) (h := ?_)
          simp only [Act.put, pa]; try dsimp only [List.set]
          iterate 3 (refine quietL ?_; simp only [Act.put, pa]; try dsimp only [List.set])
          refine quietL (hy := fun E Wx hSw => by ((refine and5 (Cb21_112_4.out _ _ hSw) fun u0 u1 u2 u3 u4 => ?_); go_simp; exact ⟨rfl, hSw⟩)) (h := ?_)
          simp only [Act.put, pa]; try dsimp only [List.set]
          refine quietL (hy := fun E Wx hSw => by (go_simp; exact symCall (K21_25.out _ _ hSw))) (h := ?_)
          simp only [Act.put, pa]; try dsimp only [List.set]
          iterate 4 (refine quietL ?_; simp only [Act.put, pa]; try dsimp only [List.set])
          refine quietL (hy := fun E Wx hSw => by ((refine and3 (Cb21_112_0.out _ _ hSw) fun u0 u1 u2 => ?_); go_simp; exact ⟨rfl, hSw⟩)) (h := ?_)
          simp only [Act.put, pa]; try dsimp only [List.set]
          refine stepL (fun v E1 => ∃ (va_114_1 : Option Addr) (vc_114_1 : Nat), v = .slice va_114_1 P.length vc_114_1 ∧ E1 = [valsR (.slice va_114_1 P.length vc_114_1) P]) (h1 := fun Wx hSw => by (go_simp; refine symCallN ?_; exact (KI21_31.out _ _ hSw).mono fun e W' ⟨a, c, e1, e2⟩ => ⟨_, _, e1, ⟨a, c, rfl, rfl⟩, e2.into 0 rfl⟩)) (h2 := fun v E1 hvE => ?_)
          obtain ⟨va_114_1, vc_114_1, rfl, rfl⟩ := hvE
          simp only [Act.put, pa]; try dsimp only [List.set]
          refine quietL ?_
          simp only [Act.put, pa]; try dsimp only [List.set]
          refine detL (.bool true) [valsR (.slice va_114_1 P.length vc_114_1) P] (h1 := fun Wx hSw => by (go_simp; refine symCall ?_; exact same_at hSw (hSw.seesV 0 rfl) (KW.out _ _ hSw) rfl)) (h2 := ?_)
          simp only [Act.put, pa]; try dsimp only [List.set]
          iterate 2 (refine quietL ?_; simp only [Act.put, pa]; try dsimp only [List.set])
          intro w114 S
          replace S : Sep w (valsR (.slice va_114_1 P.length vc_114_1) P :: boxN qb201 indexError :: boxN qb191 typeError :: boxN qb181 typeError :: boxN qb171 typeError :: boxZ qq0_16 :: boxN qq1_16 indexError :: boxZ qq0_15 :: boxN qq1_15 indexError :: valsR (.slice va_8_1 P.length vc_8_1) P :: boxW qB2 4 2 ⟨#[]⟩ :: heapR h (HR P P) :: boxW qA2 4 1 ⟨#[]⟩ :: boxV q4 x :: []) w114 := by rw [Hb21_112.out] at S; exact S
          clear Hb21_112 Kb21_112 K21_1 K21_5 K21_10 K21_15 K21_20 K21_25 KI21_31 KW Cb21_112_0 Cb21_112_1 Cb21_112_2 Cb21_112_3 Cb21_112_4 Cb21_112_5 Cb21_112_6
          clear HA HB hw1 hw2 HO2
          by_cases h0 : P.length = 0
          · as_aux_lemma =>
              have h0i : ((P.length : Int) == 0) = true := by simp [h0]
              have H0 := Lib.hid h0
              clear h0
              refine named (valsR (.slice va_114_1 P.length vc_114_1) P :: boxN qb201 indexError :: boxN qb191 typeError :: boxN qb181 typeError :: boxN qb171 typeError :: boxZ qq0_16 :: boxN qq1_16 indexError :: boxZ qq0_15 :: boxN qq1_15 indexError :: valsR (.slice va_8_1 P.length vc_8_1) P :: boxW qB2 4 2 ⟨#[]⟩ :: heapR h (HR P P) :: boxW qA2 4 1 ⟨#[]⟩ :: boxV q4 x :: []) fun b24_114 hb24_114 => ?_
              have Hb24_114 := Lib.hid hb24_114
              have Kb24_114 : Hid (∀ W (Q : List Res), Sep w (Q ++ b24_114) W → True) := Lib.hid fun W Q T => by
                rw [hb24_114] at T
                trivial
              have Cb24_114_0 : Hid (∀ W (Q : List Res), Sep w (Q ++ b24_114) W → W.cell? ⟨qA2, 0, none⟩ = some (.int .i64 4) ∧ W.cell? ⟨qA2, 1, none⟩ = some (.int .i64 1) ∧ W.cell? ⟨qA2, 2, none⟩ = some (.string ⟨#[]⟩)) := Lib.hid fun W Q T => by
                rw [hb24_114] at T
                have i0 := T.box (b := qA2) (o := objW 4 1 ⟨#[]⟩) (Q.length + 12) (by rw [List.getElem?_append_right (by omega), Nat.add_sub_cancel_left]; rfl)
                exact ⟨cellAt i0 0 rfl, cellAt i0 1 rfl, cellAt i0 2 rfl⟩
              have K24_2 : Hid (∀ W (Q : List Res), Sep w (Q ++ b24_114) W → Calls Tryz.prog 16 #[.int .i64 0] W fun e W' => e = .returned (.agg #[.int .i64 2, .int .i64 0, .string ⟨#[]⟩]) ∧ Sep w (Q ++ b24_114) W') := Lib.hid fun W Q T => by
                exact (lnum_ok W 0).mono fun e W' ⟨e1, e2⟩ => ⟨e1, T.later e2⟩
              have K24_3 : Hid (∀ W (Q : List Res), Sep w (Q ++ b24_114) W → Calls Tryz.prog 40 #[.pointer (some ⟨h, 0, none⟩), .agg #[.int .i64 4, .int .i64 1, .string ⟨#[]⟩], .agg #[.int .i64 2, .int .i64 0, .string ⟨#[]⟩]] W fun e W' => e = .returned (excN indexError) ∧ Sep w (Q ++ b24_114) W') := Lib.hid fun W Q T => by
                rw [Hb24_114.out] at T ⊢
                exact r_delA_no T (Q.length + 11) (by rw [List.getElem?_append_right (by omega), Nat.add_sub_cancel_left]; rfl) H8.out H8.out 0 (by decide) (by unfold inP placeP; rw [H0.out]; decide)
              have K24_4 : Hid (∀ W (Q : List Res), Sep w (Q ++ b24_114) W → Calls Tryz.prog 21 #[excN indexError, .string indexError] W fun e W' => e = .returned (.bool true) ∧ Sep w (Q ++ b24_114) W') := Lib.hid fun W Q T => by
                exact (raised_index W).mono fun e W' ⟨e1, e2⟩ => ⟨e1, T.later e2⟩
              replace S := Lib.hid S
              clear hb24_114
              go_upto_region 24 with fail
              have S1 : Sep w ([] ++ b24_114) (w114) := by rw [Hb24_114.out]; exact S.out
              clear S
              refine regionP 6 0 (E := []) (base := b24_114) S1 ?_
              clear S1
              refine quietP ?_
              simp only [Act.put, pa]; try dsimp only [List.set]
              refine quietP (hy := fun E Wx hSw => by ((refine and3 (Cb24_114_0.out _ _ hSw) fun u0 u1 u2 => ?_); go_simp; exact ⟨rfl, hSw⟩)) (h := ?_)
              simp only [Act.put, pa]; try dsimp only [List.set]
              refine quietP (hy := fun E Wx hSw => by (go_simp; exact symCall (K24_2.out _ _ hSw))) (h := ?_)
              simp only [Act.put, pa]; try dsimp only [List.set]
              refine quietP (hy := fun E Wx hSw => by (go_simp; exact symCall (K24_3.out _ _ hSw))) (h := ?_)
              simp only [Act.put, pa]; try dsimp only [List.set]
              refine quietP (hy := fun E Wx hSw => by (go_simp; exact symCall (K24_4.out _ _ hSw))) (h := ?_)
              simp only [Act.put, pa]; try dsimp only [List.set]
              refine quietP ?_
              simp only [Act.put, pa]; try dsimp only [List.set]
              refine endP ?_
              refine doneS (h := fun w116 S => ?_)
              replace S : Sep w (valsR (.slice va_114_1 P.length vc_114_1) P :: boxN qb201 indexError :: boxN qb191 typeError :: boxN qb181 typeError :: boxN qb171 typeError :: boxZ qq0_16 :: boxN qq1_16 indexError :: boxZ qq0_15 :: boxN qq1_15 indexError :: valsR (.slice va_8_1 P.length vc_8_1) P :: boxW qB2 4 2 ⟨#[]⟩ :: heapR h (HR P P) :: boxW qA2 4 1 ⟨#[]⟩ :: boxV q4 x :: []) w116 := by rw [Hb24_114.out] at S; exact S
              clear Hb24_114 Kb24_114 K24_2 K24_3 K24_4 Cb24_114_0
              replace S := Lib.hid S.below
              go_wp2
              go_ret
              exact ⟨rfl, by rw [← HQ4.out]; exact S.out⟩
          · as_aux_lemma =>
              have h0i : ((P.length : Int) == 0) = false := by simpa using h0
              have hpe : ¬ P = [] := fun e => h0 (by rw [e]; rfl)
              have hpos : 0 < P.length := by omega
              obtain ⟨p, hp, hpl⟩ := rest_of (byte_range HT.out).1 hpos
              have htw : IntKind.i64.wrap t = t := IntWalk.i64_in _ (by have := byte_range HT.out; omega)
              obtain ⟨g, og, rfl⟩ := (S.seesV 9 rfl).some_at hpos
              clear h0
              refine named (valsR (.slice va_114_1 P.length vc_114_1) P :: boxN qb201 indexError :: boxN qb191 typeError :: boxN qb181 typeError :: boxN qb171 typeError :: boxZ qq0_16 :: boxN qq1_16 indexError :: boxZ qq0_15 :: boxN qq1_15 indexError :: valsR (.slice (some ⟨g, og, none⟩) P.length vc_8_1) P :: boxW qB2 4 2 ⟨#[]⟩ :: heapR h (HR P P) :: boxW qA2 4 1 ⟨#[]⟩ :: boxV q4 x :: []) fun b25_200 hb25_200 => ?_
              have Hb25_200 := Lib.hid hb25_200
              have Kb25_200 : Hid (∀ W (Q : List Res), Sep w (Q ++ b25_200) W → True) := Lib.hid fun W Q T => by
                rw [hb25_200] at T
                trivial
              replace S := Lib.hid S
              clear hb25_200
              go_upto_region 25 with fail
              have S1 : Sep w ([] ++ b25_200) (w114) := by rw [Hb25_200.out]; exact S.out
              clear S
              refine regionL (E := []) (base := b25_200) S1 ?_
              clear S1
              iterate 5 (refine quietL ?_; simp only [Act.put, pa]; try dsimp only [List.set])
              intro w202 S
              replace S : Sep w (valsR (.slice va_114_1 P.length vc_114_1) P :: boxN qb201 indexError :: boxN qb191 typeError :: boxN qb181 typeError :: boxN qb171 typeError :: boxZ qq0_16 :: boxN qq1_16 indexError :: boxZ qq0_15 :: boxN qq1_15 indexError :: valsR (.slice (some ⟨g, og, none⟩) P.length vc_8_1) P :: boxW qB2 4 2 ⟨#[]⟩ :: heapR h (HR P P) :: boxW qA2 4 1 ⟨#[]⟩ :: boxV q4 x :: []) w202 := by rw [Hb25_200.out] at S; exact S
              clear Hb25_200 Kb25_200
              clear hp htw h0i hpe
              have hw1 : IntKind.i64.wrap ((p : Int) - P.length) = (p : Int) - P.length := IntWalk.i64_in _ (by omega)
              obtain ⟨P2, hQ⟩ : ∃ P2, P2 = P.set p x := ⟨_, rfl⟩
              have hQl : P2.length = P.length := by rw [hQ, List.length_set]
              have HQ := Lib.hid hQ
              have HQL := Lib.hid hQl
              have HQ8 := Lib.hid (show P2.length ≤ 5000 by rw [hQl]; exact H8.out)
              obtain ⟨P3, hR⟩ : ∃ P3, P3 = P2.take p ++ P2.drop (p + 1) := ⟨_, rfl⟩
              have HR_ := Lib.hid hR
              have hRe : P3 = P.take p ++ P.drop (p + 1) := by rw [hR, hQ, List.take_set_of_le (Nat.le_refl p), List.drop_set_of_lt (Nat.lt_succ_self p)]
              have HRE := Lib.hid hRe
              have HPL := Lib.hid hpl
              have HPOS := Lib.hid hpos
              have HA := Lib.hid (show placeP P.length ((p : Int) - P.length) = p by unfold placeP; rw [if_pos (by omega)]; omega)
              have HB := Lib.hid (show placeP P2.length (p : Int) = p by unfold placeP; rw [if_neg (by omega)])
              have HO2 := Lib.hid (show okI ((p : Int) - P.length) from okI_of (by omega))
              have HO3 := Lib.hid (show okI (p : Int) from okI_of (by omega))
              have hpi : (p : Int) < P.length := by omega
              have hpw : IntKind.i64.wrap ((p : Int) + 1) = (p : Int) + 1 := IntWalk.i64_in _ (by omega)
              have HP3 := Lib.hid (show P3.length ≤ 5000 by rw [hRe, List.length_append, List.length_take, List.length_drop]; have := H8.out; omega)
              clear hQ hQl hR hRe hpos hpl
              replace S : Sep w (heapR h (HR P P) :: valsR (.slice va_114_1 P.length vc_114_1) P :: boxN qb201 indexError :: boxN qb191 typeError :: boxN qb181 typeError :: boxN qb171 typeError :: boxZ qq0_16 :: boxN qq1_16 indexError :: boxZ qq0_15 :: boxN qq1_15 indexError :: valsR (.slice (some ⟨g, og, none⟩) P.length vc_8_1) P :: boxW qB2 4 2 ⟨#[]⟩ :: boxW qA2 4 1 ⟨#[]⟩ :: boxV q4 x :: []) (w202) := by
                refine (show Sep w ([valsR (.slice va_114_1 P.length vc_114_1) P, boxN qb201 indexError, boxN qb191 typeError, boxN qb181 typeError, boxN qb171 typeError, boxZ qq0_16, boxN qq1_16 indexError, boxZ qq0_15, boxN qq1_15 indexError, valsR (.slice (some ⟨g, og, none⟩) P.length vc_8_1) P, boxW qB2 4 2 ⟨#[]⟩, heapR h (HR P P), boxW qA2 4 1 ⟨#[]⟩, boxV q4 x] ++ []) _ from S).perm ?_
                exact List.Perm.append_right [] (perm_of (l := [valsR (.slice va_114_1 P.length vc_114_1) P, boxN qb201 indexError, boxN qb191 typeError, boxN qb181 typeError, boxN qb171 typeError, boxZ qq0_16, boxN qq1_16 indexError, boxZ qq0_15, boxN qq1_15 indexError, valsR (.slice (some ⟨g, og, none⟩) P.length vc_8_1) P, boxW qB2 4 2 ⟨#[]⟩, heapR h (HR P P), boxW qA2 4 1 ⟨#[]⟩, boxV q4 x]) [11, 0, 1, 2, 3, 4, 5, 6, 7, 8, 9, 10, 12, 13] (by show (List.range' 0 14).Perm [11, 0, 1, 2, 3, 4, 5, 6, 7, 8, 9, 10, 12, 13]; decide) (by rfl))
              refine named (valsR (.slice va_114_1 P.length vc_114_1) P :: boxN qb201 indexError :: boxN qb191 typeError :: boxN qb181 typeError :: boxN qb171 typeError :: boxZ qq0_16 :: boxN qq1_16 indexError :: boxZ qq0_15 :: boxN qq1_15 indexError :: valsR (.slice (some ⟨g, og, none⟩) P.length vc_8_1) P :: boxW qB2 4 2 ⟨#[]⟩ :: boxW qA2 4 1 ⟨#[]⟩ :: boxV q4 x :: []) fun b26_202 hb26_202 => ?_
              have Hb26_202 := Lib.hid hb26_202
              have Kb26_202 : Hid (∀ W (Q : List Res), Sep w (Q ++ b26_202) W → True) := Lib.hid fun W Q T => by
                rw [hb26_202] at T
                trivial
              have Cb26_202_0 : Hid (∀ W (Q : List Res), Sep w (Q ++ b26_202) W → W.cell? ⟨q4, 0, none⟩ = some (.int .i64 x.kind) ∧ W.cell? ⟨q4, 1, none⟩ = some (.int .i64 x.n) ∧ W.cell? ⟨q4, 2, none⟩ = some (.string x.s)) := Lib.hid fun W Q T => by
                rw [hb26_202] at T
                have i0 := T.box (b := q4) (o := objV x) (Q.length + 12) (by rw [List.getElem?_append_right (by omega), Nat.add_sub_cancel_left]; rfl)
                exact ⟨cellAt i0 0 rfl, cellAt i0 1 rfl, cellAt i0 2 rfl⟩
              have Cb26_202_1 : Hid (∀ W (Q : List Res), Sep w (Q ++ b26_202) W → W.cell? ⟨qA2, 0, none⟩ = some (.int .i64 4) ∧ W.cell? ⟨qA2, 1, none⟩ = some (.int .i64 1) ∧ W.cell? ⟨qA2, 2, none⟩ = some (.string ⟨#[]⟩)) := Lib.hid fun W Q T => by
                rw [hb26_202] at T
                have i0 := T.box (b := qA2) (o := objW 4 1 ⟨#[]⟩) (Q.length + 11) (by rw [List.getElem?_append_right (by omega), Nat.add_sub_cancel_left]; rfl)
                exact ⟨cellAt i0 0 rfl, cellAt i0 1 rfl, cellAt i0 2 rfl⟩
              have K26_5 : Hid (∀ W (Q : List Res), Sep w (Q ++ b26_202) W → Calls Tryz.prog 16 #[.int .i64 ((p : Int) - P.length)] W fun e W' => e = .returned (.agg #[.int .i64 2, .int .i64 ((p : Int) - P.length), .string ⟨#[]⟩]) ∧ Sep w (Q ++ b26_202) W') := Lib.hid fun W Q T => by
                exact (lnum_ok W ((p : Int) - P.length)).mono fun e W' ⟨e1, e2⟩ => ⟨e1, T.later e2⟩
              replace S := Lib.hid S
              clear hb26_202
              go_upto_region 26 with fail
              go_cut [28] (fun s28 wx => ∃ qq0_26, s28 = .pointer (some ⟨qq0_26, 0, none⟩) ∧ Sep w ([boxE qq0_26, heapR h (HR P2 P)] ++ b26_202) wx)
              case first =>
                have S1 : Sep w ([heapR h (HR P P)] ++ b26_202) (w202) := by rw [Hb26_202.out]; exact S.out
                clear S
                refine regionP 7 3 (E := [emptyR, heapR h (HR P P)]) (base := b26_202) (Sep.putE S1) ?_
                clear S1
                refine quietP ?_
                simp only [Act.put, pa]; try dsimp only [List.set]
                refine quietP (hy := fun E Wx hSw => by ((refine and3 (Cb26_202_1.out _ _ hSw) fun u0 u1 u2 => ?_); go_simp; exact ⟨rfl, hSw⟩)) (h := ?_)
                simp only [Act.put, pa]; try dsimp only [List.set]
                iterate 3 (refine quietP ?_; simp only [Act.put, pa]; try dsimp only [List.set])
                refine quietP (hy := fun E Wx hSw => by (go_simp; exact symCall (K26_5.out _ _ hSw))) (h := ?_)
                simp only [Act.put, pa]; try dsimp only [List.set]
                refine quietP (hy := fun E Wx hSw => by ((refine and3 (Cb26_202_0.out _ _ hSw) fun u0 u1 u2 => ?_); go_simp; exact ⟨rfl, hSw⟩)) (h := ?_)
                simp only [Act.put, pa]; try dsimp only [List.set]
                refine endP ?_
                refine readyS [7, 8] ?_
                refine detS (excZ) [emptyR, heapR h (HR P2 P)] (h1 := fun Wx hSw => by (go_simp; refine symCall ?_; have hh := r_setA hSw 1 rfl H8.out H8.out _ HO2.out x HPL.out HA.out; rw [← HQ.out] at hh; exact hh)) (h2 := ?_) (hs := ?_)
                · simp only [Act.put, pa]; try dsimp only [List.set]
                  refine readyS [8] ?_
                  refine allocS 0 rfl (fun q => .pointer (some ⟨q, 0, none⟩)) (.cells #[.string ⟨#[]⟩, .int .i64 0, .int .i64 0, .string ⟨#[]⟩, .bool false] 38) (h1 := fun Wx => by go_simp) (h2 := fun qb262 => ?_) (hs := nilS)
                  simp only [Act.put, pa]; try dsimp only [List.set]
                  try simp only [List.set_cons_zero, List.set_cons_succ]
                  refine readyS [9] ?_
                  refine detS undef [boxE qb262, heapR h (HR P2 P)] (h1 := fun Wx hSw => by (have hz := hSw.box (b := qb262) (o := objE) 0 rfl; refine useZ5 hz fun z0 z1 z2 z3 z4 y0 y1 y2 y3 y4 => ?_; go_simp; exact ⟨rfl, hSw.set5 0 rfl (.string ⟨#[]⟩) (.int .i64 0) (.int .i64 0) (.string ⟨#[]⟩) (.bool false)⟩)) (h2 := ?_) (hs := nilS)
                  simp only [Act.put, pa]; try dsimp only [List.set]
                  refine doneS (h := fun w204 S => ?_)
                  go_wp2_with fail
                  as_aux_lemma => (go_meet; exact ⟨_, rfl, S⟩)
                refine allocS 0 rfl (fun q => .pointer (some ⟨q, 0, none⟩)) (.cells #[.string ⟨#[]⟩, .int .i64 0, .int .i64 0, .string ⟨#[]⟩, .bool false] 38) (h1 := fun Wx => by go_simp) (h2 := fun qb264 => ?_) (hs := ?_)
                · simp only [Act.put, pa]; try dsimp only [List.set]
                  try simp only [List.set_cons_zero, List.set_cons_succ]
                  refine readyS [7] ?_
                  refine detS (excZ) [boxE qb264, heapR h (HR P2 P)] (h1 := fun Wx hSw => by (go_simp; refine symCall ?_; have hh := r_setA hSw 1 rfl H8.out H8.out _ HO2.out x HPL.out HA.out; rw [← HQ.out] at hh; exact hh)) (h2 := ?_) (hs := nilS)
                  simp only [Act.put, pa]; try dsimp only [List.set]
                  refine readyS [9] ?_
                  refine detS undef [boxE qb264, heapR h (HR P2 P)] (h1 := fun Wx hSw => by (have hz := hSw.box (b := qb264) (o := objE) 0 rfl; refine useZ5 hz fun z0 z1 z2 z3 z4 y0 y1 y2 y3 y4 => ?_; go_simp; exact ⟨rfl, hSw.set5 0 rfl (.string ⟨#[]⟩) (.int .i64 0) (.int .i64 0) (.string ⟨#[]⟩) (.bool false)⟩)) (h2 := ?_) (hs := nilS)
                  simp only [Act.put, pa]; try dsimp only [List.set]
                  refine doneS (h := fun w204 S => ?_)
                  go_wp2_with fail
                  as_aux_lemma => (go_meet; exact ⟨_, rfl, S⟩)
                exact nilS
              case rest =>
                obtain ⟨qq0_26, rfl, S⟩ := hcut
                replace S : Sep w (boxE qq0_26 :: heapR h (HR P2 P) :: valsR (.slice va_114_1 P.length vc_114_1) P :: boxN qb201 indexError :: boxN qb191 typeError :: boxN qb181 typeError :: boxN qb171 typeError :: boxZ qq0_16 :: boxN qq1_16 indexError :: boxZ qq0_15 :: boxN qq1_15 indexError :: valsR (.slice (some ⟨g, og, none⟩) P.length vc_8_1) P :: boxW qB2 4 2 ⟨#[]⟩ :: boxW qA2 4 1 ⟨#[]⟩ :: boxV q4 x :: []) wc := by rw [Hb26_202.out] at S; exact S
                clear Hb26_202 Kb26_202 K26_5 Cb26_202_0 Cb26_202_1
                clear hw1
                refine named (boxE qq0_26 :: heapR h (HR P2 P) :: valsR (.slice va_114_1 P.length vc_114_1) P :: boxN qb201 indexError :: boxN qb191 typeError :: boxN qb181 typeError :: boxN qb171 typeError :: boxZ qq0_16 :: boxN qq1_16 indexError :: boxZ qq0_15 :: boxN qq1_15 indexError :: valsR (.slice (some ⟨g, og, none⟩) P.length vc_8_1) P :: boxW qB2 4 2 ⟨#[]⟩ :: boxW qA2 4 1 ⟨#[]⟩ :: boxV q4 x :: []) fun b27_204 hb27_204 => ?_
                have Hb27_204 := Lib.hid hb27_204
                have Kb27_204 : Hid (∀ W (Q : List Res), Sep w (Q ++ b27_204) W → True) := Lib.hid fun W Q T => by
                  rw [hb27_204] at T
                  trivial
                have KW : Hid (∀ W (Q : List Res), Sep w (Q ++ b27_204) W → SeesV W (.slice (some ⟨g, og, none⟩) P.length vc_8_1) P) := Lib.hid fun W Q T => by rw [Hb27_204.out] at T; exact T.seesV (Q.length + 11) (by rw [List.getElem?_append_right (by omega), Nat.add_sub_cancel_left]; rfl)
                replace S := Lib.hid S
                clear hb27_204
                go_upto_region 27 with fail
                have S1 : Sep w ([] ++ b27_204) (wc) := by rw [Hb27_204.out]; exact S.out
                clear S
                refine regionL (E := [emptyR]) (base := b27_204) (Sep.putE S1) ?_
                clear S1
                refine stepL (fun v E1 => ∃ (q_206_1 : Nat), v = .slice (some ⟨q_206_1, 0, none⟩) 0 0 ∧ E1 = [valsR (.slice (some ⟨q_206_1, 0, none⟩) 0 0) []]) (h1 := fun Wx hSw => by (go_simp; exact ⟨_, ⟨_, rfl, rfl⟩, (hSw.madeRow V.cells 3 29).into 0 rfl⟩)) (h2 := fun v E1 hvE => ?_)
                obtain ⟨q_206_1, rfl, rfl⟩ := hvE
                simp only [Act.put, pa]; try dsimp only [List.set]
                refine quietL ?_
                simp only [Act.put, pa]; try dsimp only [List.set]
                refine stepL (fun v E1 => ∃ (va_206_2 : Option Addr) (vc_206_2 : Nat), v = .slice va_206_2 P.length vc_206_2 ∧ E1 = [valsR (.slice va_206_2 P.length vc_206_2) P]) (h1 := fun Wx hSw => by (obtain ⟨va, vc, w2, hr, S2⟩ := hSw.appendV 0 rfl rfl (KW.out _ _ hSw) P.length (Nat.zero_add _) (Nat.le_trans H8.out (by decide)); exact symAppend _ _ _ _ rfl _ _ rfl rfl hr ⟨_, ⟨va, vc, rfl, rfl⟩, S2⟩)) (h2 := fun v E1 hvE => ?_)
                obtain ⟨va_206_2, vc_206_2, rfl, rfl⟩ := hvE
                simp only [Act.put, pa]; try dsimp only [List.set]
                refine quietL ?_
                simp only [Act.put, pa]; try dsimp only [List.set]
                intro w206 S
                replace S : Sep w (valsR (.slice va_206_2 P.length vc_206_2) P :: boxE qq0_26 :: heapR h (HR P2 P) :: valsR (.slice va_114_1 P.length vc_114_1) P :: boxN qb201 indexError :: boxN qb191 typeError :: boxN qb181 typeError :: boxN qb171 typeError :: boxZ qq0_16 :: boxN qq1_16 indexError :: boxZ qq0_15 :: boxN qq1_15 indexError :: valsR (.slice (some ⟨g, og, none⟩) P.length vc_8_1) P :: boxW qB2 4 2 ⟨#[]⟩ :: boxW qA2 4 1 ⟨#[]⟩ :: boxV q4 x :: []) w206 := by rw [Hb27_204.out] at S; exact S
                clear Hb27_204 Kb27_204 KW
                obtain ⟨gn, rfl⟩ := S.rowAt 0 rfl HPOS.out
                replace S : Sep w (valsR (.slice (some ⟨gn, 0, none⟩) P.length vc_206_2) P :: boxE qq0_26 :: heapR h (HR P2 P) :: valsR (.slice va_114_1 P.length vc_114_1) P :: boxN qb201 indexError :: boxN qb191 typeError :: boxN qb181 typeError :: boxN qb171 typeError :: boxZ qq0_16 :: boxN qq1_16 indexError :: boxZ qq0_15 :: boxN qq1_15 indexError :: valsR (.slice (some ⟨g, og, none⟩) P.length vc_8_1) P :: boxW qB2 4 2 ⟨#[]⟩ :: boxW qA2 4 1 ⟨#[]⟩ :: boxV q4 x :: []) (w206) := by
                  refine (show Sep w ([valsR (.slice (some ⟨gn, 0, none⟩) P.length vc_206_2) P, boxE qq0_26, heapR h (HR P2 P), valsR (.slice va_114_1 P.length vc_114_1) P, boxN qb201 indexError, boxN qb191 typeError, boxN qb181 typeError, boxN qb171 typeError, boxZ qq0_16, boxN qq1_16 indexError, boxZ qq0_15, boxN qq1_15 indexError, valsR (.slice (some ⟨g, og, none⟩) P.length vc_8_1) P, boxW qB2 4 2 ⟨#[]⟩, boxW qA2 4 1 ⟨#[]⟩, boxV q4 x] ++ []) _ from S).perm ?_
                  exact List.Perm.append_right [] (perm_of (l := [valsR (.slice (some ⟨gn, 0, none⟩) P.length vc_206_2) P, boxE qq0_26, heapR h (HR P2 P), valsR (.slice va_114_1 P.length vc_114_1) P, boxN qb201 indexError, boxN qb191 typeError, boxN qb181 typeError, boxN qb171 typeError, boxZ qq0_16, boxN qq1_16 indexError, boxZ qq0_15, boxN qq1_15 indexError, valsR (.slice (some ⟨g, og, none⟩) P.length vc_8_1) P, boxW qB2 4 2 ⟨#[]⟩, boxW qA2 4 1 ⟨#[]⟩, boxV q4 x]) [0, 1, 2, 3, 4, 5, 6, 7, 8, 9, 10, 11, 12, 13, 14, 15] (by show (List.range' 0 16).Perm [0, 1, 2, 3, 4, 5, 6, 7, 8, 9, 10, 11, 12, 13, 14, 15]; decide) (by rfl))
                refine named (boxE qq0_26 :: heapR h (HR P2 P) :: valsR (.slice va_114_1 P.length vc_114_1) P :: boxN qb201 indexError :: boxN qb191 typeError :: boxN qb181 typeError :: boxN qb171 typeError :: boxZ qq0_16 :: boxN qq1_16 indexError :: boxZ qq0_15 :: boxN qq1_15 indexError :: valsR (.slice (some ⟨g, og, none⟩) P.length vc_8_1) P :: boxW qB2 4 2 ⟨#[]⟩ :: boxW qA2 4 1 ⟨#[]⟩ :: boxV q4 x :: []) fun b28_206 hb28_206 => ?_
                have Hb28_206 := Lib.hid hb28_206
                have Kb28_206 : Hid (∀ W (Q : List Res), Sep w (Q ++ b28_206) W → True) := Lib.hid fun W Q T => by
                  rw [hb28_206] at T
                  trivial
                have Cb28_206_0 : Hid (∀ W (Q : List Res), Sep w (Q ++ b28_206) W → W.cell? ⟨q4, 0, none⟩ = some (.int .i64 x.kind) ∧ W.cell? ⟨q4, 1, none⟩ = some (.int .i64 x.n) ∧ W.cell? ⟨q4, 2, none⟩ = some (.string x.s)) := Lib.hid fun W Q T => by
                  rw [hb28_206] at T
                  have i0 := T.box (b := q4) (o := objV x) (Q.length + 14) (by rw [List.getElem?_append_right (by omega), Nat.add_sub_cancel_left]; rfl)
                  exact ⟨cellAt i0 0 rfl, cellAt i0 1 rfl, cellAt i0 2 rfl⟩
                replace S := Lib.hid S
                clear hb28_206
                go_upto_region 28 with fail
                have S1 : Sep w ([valsR (.slice (some ⟨gn, 0, none⟩) P.length vc_206_2) P] ++ b28_206) (w206) := by rw [Hb28_206.out]; exact S.out
                clear S
                refine regionL (E := [valsR (.slice (some ⟨gn, 0, none⟩) P.length vc_206_2) P]) (base := b28_206) S1 ?_
                clear S1
                iterate 2 (refine quietL ?_; simp only [Act.put, pa]; try dsimp only [List.set])
                refine quietL (hy := fun E Wx hSw => by ((refine and3 (Cb28_206_0.out _ _ hSw) fun u0 u1 u2 => ?_); go_simp; exact ⟨rfl, hSw⟩)) (h := ?_)
                simp only [Act.put, pa]; try dsimp only [List.set]
                refine quietL ?_
                simp only [Act.put, pa]; try dsimp only [List.set]
                refine detL (undef) [valsR (.slice (some ⟨gn, 0, none⟩) P.length vc_206_2) (P.set p x)] (h1 := fun Wx hSw => by (refine hSw.rowCells 0 rfl rfl HPL.out fun u c0 c1 c2 f0 f1 f2 => ?_; go_simp; exact ⟨rfl, hSw.putV 0 rfl rfl HPL.out x⟩)) (h2 := ?_)
                simp only [Act.put, pa]; try dsimp only [List.set]
                intro w208 S
                replace S : Sep w (valsR (.slice (some ⟨gn, 0, none⟩) P.length vc_206_2) (P.set p x) :: boxE qq0_26 :: heapR h (HR P2 P) :: valsR (.slice va_114_1 P.length vc_114_1) P :: boxN qb201 indexError :: boxN qb191 typeError :: boxN qb181 typeError :: boxN qb171 typeError :: boxZ qq0_16 :: boxN qq1_16 indexError :: boxZ qq0_15 :: boxN qq1_15 indexError :: valsR (.slice (some ⟨g, og, none⟩) P.length vc_8_1) P :: boxW qB2 4 2 ⟨#[]⟩ :: boxW qA2 4 1 ⟨#[]⟩ :: boxV q4 x :: []) w208 := by rw [Hb28_206.out] at S; exact S
                clear Hb28_206 Kb28_206 Cb28_206_0
                as_aux_lemma =>
                  refine named (valsR (.slice (some ⟨gn, 0, none⟩) P.length vc_206_2) (P.set p x) :: boxE qq0_26 :: heapR h (HR P2 P) :: valsR (.slice va_114_1 P.length vc_114_1) P :: boxN qb201 indexError :: boxN qb191 typeError :: boxN qb181 typeError :: boxN qb171 typeError :: boxZ qq0_16 :: boxN qq1_16 indexError :: boxZ qq0_15 :: boxN qq1_15 indexError :: valsR (.slice (some ⟨g, og, none⟩) P.length vc_8_1) P :: boxW qB2 4 2 ⟨#[]⟩ :: boxW qA2 4 1 ⟨#[]⟩ :: boxV q4 x :: []) fun b29_208 hb29_208 => ?_
                  have Hb29_208 := Lib.hid hb29_208
                  have Kb29_208 : Hid (∀ W (Q : List Res), Sep w (Q ++ b29_208) W → True) := Lib.hid fun W Q T => by
                    rw [hb29_208] at T
                    trivial
                  have Cb29_208_0 : Hid (∀ W (Q : List Res), Sep w (Q ++ b29_208) W → W.cell? ⟨qA2, 0, none⟩ = some (.int .i64 4) ∧ W.cell? ⟨qA2, 1, none⟩ = some (.int .i64 1) ∧ W.cell? ⟨qA2, 2, none⟩ = some (.string ⟨#[]⟩)) := Lib.hid fun W Q T => by
                    rw [hb29_208] at T
                    have i0 := T.box (b := qA2) (o := objW 4 1 ⟨#[]⟩) (Q.length + 14) (by rw [List.getElem?_append_right (by omega), Nat.add_sub_cancel_left]; rfl)
                    exact ⟨cellAt i0 0 rfl, cellAt i0 1 rfl, cellAt i0 2 rfl⟩
                  have KI29_2 : Hid (∀ W (Q : List Res), Sep w (Q ++ b29_208) W → Calls Tryz.prog 31 #[.pointer (some ⟨h, 0, none⟩), .agg #[.int .i64 4, .int .i64 1, .string ⟨#[]⟩]] W fun e W' => ∃ a c, e = .returned (.slice a P2.length c) ∧ Sep w (valsR (.slice a P2.length c) P2 :: (Q ++ b29_208)) W') := Lib.hid fun W Q T => by
                    rw [Hb29_208.out] at T ⊢
                    exact items_at T (Q.length + 2) (by rw [List.getElem?_append_right (by omega), Nat.add_sub_cancel_left]; rfl) (HR_good HQ8.out H8.out) (by decide) vA P2 rfl
                  replace S := Lib.hid S
                  clear hb29_208
                  go_upto_region 29 with fail
                  have S1 : Sep w ([] ++ b29_208) (w208) := by rw [Hb29_208.out]; exact S.out
                  clear S
                  refine regionL (E := [emptyR]) (base := b29_208) (Sep.putE S1) ?_
                  clear S1
                  refine quietL ?_
                  simp only [Act.put, pa]; try dsimp only [List.set]
                  refine quietL (hy := fun E Wx hSw => by ((refine and3 (Cb29_208_0.out _ _ hSw) fun u0 u1 u2 => ?_); go_simp; exact ⟨rfl, hSw⟩)) (h := ?_)
                  simp only [Act.put, pa]; try dsimp only [List.set]
                  refine stepL (fun v E1 => ∃ (va_210_1 : Option Addr) (vc_210_1 : Nat), v = .slice va_210_1 P2.length vc_210_1 ∧ E1 = [valsR (.slice va_210_1 P2.length vc_210_1) P2]) (h1 := fun Wx hSw => by (go_simp; refine symCallN ?_; exact (KI29_2.out _ _ hSw).mono fun e W' ⟨a, c, e1, e2⟩ => ⟨_, _, e1, ⟨a, c, rfl, rfl⟩, e2.into 0 rfl⟩)) (h2 := fun v E1 hvE => ?_)
                  obtain ⟨va_210_1, vc_210_1, rfl, rfl⟩ := hvE
                  simp only [Act.put, pa]; try dsimp only [List.set]
                  refine quietL ?_
                  simp only [Act.put, pa]; try dsimp only [List.set]
                  intro w210 S
                  replace S : Sep w (valsR (.slice va_210_1 P2.length vc_210_1) P2 :: valsR (.slice (some ⟨gn, 0, none⟩) P.length vc_206_2) (P.set p x) :: boxE qq0_26 :: heapR h (HR P2 P) :: valsR (.slice va_114_1 P.length vc_114_1) P :: boxN qb201 indexError :: boxN qb191 typeError :: boxN qb181 typeError :: boxN qb171 typeError :: boxZ qq0_16 :: boxN qq1_16 indexError :: boxZ qq0_15 :: boxN qq1_15 indexError :: valsR (.slice (some ⟨g, og, none⟩) P.length vc_8_1) P :: boxW qB2 4 2 ⟨#[]⟩ :: boxW qA2 4 1 ⟨#[]⟩ :: boxV q4 x :: []) w210 := by rw [Hb29_208.out] at S; exact S
                  clear Hb29_208 Kb29_208 KI29_2 Cb29_208_0
                  replace S : Sep w (heapR h (HR P2 P) :: valsR (.slice va_210_1 P2.length vc_210_1) P2 :: valsR (.slice (some ⟨gn, 0, none⟩) P.length vc_206_2) (P.set p x) :: boxE qq0_26 :: valsR (.slice va_114_1 P.length vc_114_1) P :: boxN qb201 indexError :: boxN qb191 typeError :: boxN qb181 typeError :: boxN qb171 typeError :: boxZ qq0_16 :: boxN qq1_16 indexError :: boxZ qq0_15 :: boxN qq1_15 indexError :: valsR (.slice (some ⟨g, og, none⟩) P.length vc_8_1) P :: boxW qB2 4 2 ⟨#[]⟩ :: boxW qA2 4 1 ⟨#[]⟩ :: boxV q4 x :: []) (w210) := by
                    refine (show Sep w ([valsR (.slice va_210_1 P2.length vc_210_1) P2, valsR (.slice (some ⟨gn, 0, none⟩) P.length vc_206_2) (P.set p x), boxE qq0_26, heapR h (HR P2 P), valsR (.slice va_114_1 P.length vc_114_1) P, boxN qb201 indexError, boxN qb191 typeError, boxN qb181 typeError, boxN qb171 typeError, boxZ qq0_16, boxN qq1_16 indexError, boxZ qq0_15, boxN qq1_15 indexError, valsR (.slice (some ⟨g, og, none⟩) P.length vc_8_1) P, boxW qB2 4 2 ⟨#[]⟩, boxW qA2 4 1 ⟨#[]⟩, boxV q4 x] ++ []) _ from S).perm ?_
                    exact List.Perm.append_right [] (perm_of (l := [valsR (.slice va_210_1 P2.length vc_210_1) P2, valsR (.slice (some ⟨gn, 0, none⟩) P.length vc_206_2) (P.set p x), boxE qq0_26, heapR h (HR P2 P), valsR (.slice va_114_1 P.length vc_114_1) P, boxN qb201 indexError, boxN qb191 typeError, boxN qb181 typeError, boxN qb171 typeError, boxZ qq0_16, boxN qq1_16 indexError, boxZ qq0_15, boxN qq1_15 indexError, valsR (.slice (some ⟨g, og, none⟩) P.length vc_8_1) P, boxW qB2 4 2 ⟨#[]⟩, boxW qA2 4 1 ⟨#[]⟩, boxV q4 x]) [3, 0, 1, 2, 4, 5, 6, 7, 8, 9, 10, 11, 12, 13, 14, 15, 16] (by show (List.range' 0 17).Perm [3, 0, 1, 2, 4, 5, 6, 7, 8, 9, 10, 11, 12, 13, 14, 15, 16]; decide) (by rfl))
                  refine named (valsR (.slice va_210_1 P2.length vc_210_1) P2 :: valsR (.slice (some ⟨gn, 0, none⟩) P.length vc_206_2) (P.set p x) :: boxE qq0_26 :: valsR (.slice va_114_1 P.length vc_114_1) P :: boxN qb201 indexError :: boxN qb191 typeError :: boxN qb181 typeError :: boxN qb171 typeError :: boxZ qq0_16 :: boxN qq1_16 indexError :: boxZ qq0_15 :: boxN qq1_15 indexError :: valsR (.slice (some ⟨g, og, none⟩) P.length vc_8_1) P :: boxW qB2 4 2 ⟨#[]⟩ :: boxW qA2 4 1 ⟨#[]⟩ :: boxV q4 x :: []) fun b30_210 hb30_210 => ?_
                  have Hb30_210 := Lib.hid hb30_210
                  have Kb30_210 : Hid (∀ W (Q : List Res), Sep w (Q ++ b30_210) W → True) := Lib.hid fun W Q T => by
                    rw [hb30_210] at T
                    trivial
                  have Cb30_210_0 : Hid (∀ W (Q : List Res), Sep w (Q ++ b30_210) W → W.cell? ⟨qA2, 0, none⟩ = some (.int .i64 4) ∧ W.cell? ⟨qA2, 1, none⟩ = some (.int .i64 1) ∧ W.cell? ⟨qA2, 2, none⟩ = some (.string ⟨#[]⟩)) := Lib.hid fun W Q T => by
                    rw [hb30_210] at T
                    have i0 := T.box (b := qA2) (o := objW 4 1 ⟨#[]⟩) (Q.length + 14) (by rw [List.getElem?_append_right (by omega), Nat.add_sub_cancel_left]; rfl)
                    exact ⟨cellAt i0 0 rfl, cellAt i0 1 rfl, cellAt i0 2 rfl⟩
                  have K30_3 : Hid (∀ W (Q : List Res), Sep w (Q ++ b30_210) W → Calls Tryz.prog 16 #[.int .i64 (p : Int)] W fun e W' => e = .returned (.agg #[.int .i64 2, .int .i64 (p : Int), .string ⟨#[]⟩]) ∧ Sep w (Q ++ b30_210) W') := Lib.hid fun W Q T => by
                    exact (lnum_ok W (p : Int)).mono fun e W' ⟨e1, e2⟩ => ⟨e1, T.later e2⟩
                  replace S := Lib.hid S
                  clear hb30_210
                  go_upto_region 30 with fail
                  go_cut [31] (fun s31 wx => ∃ qq0_30, s31 = .pointer (some ⟨qq0_30, 0, none⟩) ∧ Sep w ([boxE qq0_30, heapR h (HR P3 P)] ++ b30_210) wx)
                  case first =>
                    have S1 : Sep w ([heapR h (HR P2 P)] ++ b30_210) (w210) := by rw [Hb30_210.out]; exact S.out
                    clear S
                    refine regionP 4 3 (E := [emptyR, heapR h (HR P2 P)]) (base := b30_210) (Sep.putE S1) ?_
                    clear S1
                    refine quietP ?_
                    simp only [Act.put, pa]; try dsimp only [List.set]
                    refine quietP (hy := fun E Wx hSw => by ((refine and3 (Cb30_210_0.out _ _ hSw) fun u0 u1 u2 => ?_); go_simp; exact ⟨rfl, hSw⟩)) (h := ?_)
                    simp only [Act.put, pa]; try dsimp only [List.set]
                    refine quietP ?_
                    simp only [Act.put, pa]; try dsimp only [List.set]
                    refine quietP (hy := fun E Wx hSw => by (go_simp; exact symCall (K30_3.out _ _ hSw))) (h := ?_)
                    simp only [Act.put, pa]; try dsimp only [List.set]
                    refine endP ?_
                    refine readyS [4, 5] ?_
                    refine detS (excZ) [emptyR, heapR h (HR P3 P)] (h1 := fun Wx hSw => by (go_simp; refine symCall ?_; have hh := r_delA hSw 1 rfl HQ8.out H8.out _ HO3.out (by rw [HQL.out]; exact HPL.out) HB.out; rw [← HR_.out] at hh; exact hh)) (h2 := ?_) (hs := ?_)
                    · simp only [Act.put, pa]; try dsimp only [List.set]
                      refine readyS [5] ?_
                      refine allocS 0 rfl (fun q => .pointer (some ⟨q, 0, none⟩)) (.cells #[.string ⟨#[]⟩, .int .i64 0, .int .i64 0, .string ⟨#[]⟩, .bool false] 38) (h1 := fun Wx => by go_simp) (h2 := fun qb302 => ?_) (hs := nilS)
                      simp only [Act.put, pa]; try dsimp only [List.set]
                      try simp only [List.set_cons_zero, List.set_cons_succ]
                      refine readyS [6] ?_
                      refine detS undef [boxE qb302, heapR h (HR P3 P)] (h1 := fun Wx hSw => by (have hz := hSw.box (b := qb302) (o := objE) 0 rfl; refine useZ5 hz fun z0 z1 z2 z3 z4 y0 y1 y2 y3 y4 => ?_; go_simp; exact ⟨rfl, hSw.set5 0 rfl (.string ⟨#[]⟩) (.int .i64 0) (.int .i64 0) (.string ⟨#[]⟩) (.bool false)⟩)) (h2 := ?_) (hs := nilS)
                      simp only [Act.put, pa]; try dsimp only [List.set]
                      refine doneS (h := fun w212 S => ?_)
                      go_wp2_with fail
                      as_aux_lemma => (go_meet; exact ⟨_, rfl, S⟩)
                    refine allocS 0 rfl (fun q => .pointer (some ⟨q, 0, none⟩)) (.cells #[.string ⟨#[]⟩, .int .i64 0, .int .i64 0, .string ⟨#[]⟩, .bool false] 38) (h1 := fun Wx => by go_simp) (h2 := fun qb304 => ?_) (hs := ?_)
                    · simp only [Act.put, pa]; try dsimp only [List.set]
                      try simp only [List.set_cons_zero, List.set_cons_succ]
                      refine readyS [4] ?_
                      refine detS (excZ) [boxE qb304, heapR h (HR P3 P)] (h1 := fun Wx hSw => by (go_simp; refine symCall ?_; have hh := r_delA hSw 1 rfl HQ8.out H8.out _ HO3.out (by rw [HQL.out]; exact HPL.out) HB.out; rw [← HR_.out] at hh; exact hh)) (h2 := ?_) (hs := nilS)
                      simp only [Act.put, pa]; try dsimp only [List.set]
                      refine readyS [6] ?_
                      refine detS undef [boxE qb304, heapR h (HR P3 P)] (h1 := fun Wx hSw => by (have hz := hSw.box (b := qb304) (o := objE) 0 rfl; refine useZ5 hz fun z0 z1 z2 z3 z4 y0 y1 y2 y3 y4 => ?_; go_simp; exact ⟨rfl, hSw.set5 0 rfl (.string ⟨#[]⟩) (.int .i64 0) (.int .i64 0) (.string ⟨#[]⟩) (.bool false)⟩)) (h2 := ?_) (hs := nilS)
                      simp only [Act.put, pa]; try dsimp only [List.set]
                      refine doneS (h := fun w212 S => ?_)
                      go_wp2_with fail
                      as_aux_lemma => (go_meet; exact ⟨_, rfl, S⟩)
                    exact nilS
                  case rest =>
                    obtain ⟨qq0_30, rfl, S⟩ := hcut
                    replace S : Sep w (boxE qq0_30 :: heapR h (HR P3 P) :: valsR (.slice va_210_1 P2.length vc_210_1) P2 :: valsR (.slice (some ⟨gn, 0, none⟩) P.length vc_206_2) (P.set p x) :: boxE qq0_26 :: valsR (.slice va_114_1 P.length vc_114_1) P :: boxN qb201 indexError :: boxN qb191 typeError :: boxN qb181 typeError :: boxN qb171 typeError :: boxZ qq0_16 :: boxN qq1_16 indexError :: boxZ qq0_15 :: boxN qq1_15 indexError :: valsR (.slice (some ⟨g, og, none⟩) P.length vc_8_1) P :: boxW qB2 4 2 ⟨#[]⟩ :: boxW qA2 4 1 ⟨#[]⟩ :: boxV q4 x :: []) wc := by rw [Hb30_210.out] at S; exact S
                    clear Hb30_210 Kb30_210 K30_3 Cb30_210_0
                    obtain ⟨hcl, hcc, hcb⟩ := S.caps 14 rfl
                    have hpc : (p : Int) ≤ vc_8_1 := by omega
                    have hp1 : (p : Int) + 1 ≤ P.length := by omega
                    have HCC := Lib.hid hcc
                    clear hcl
                    refine named (boxE qq0_30 :: heapR h (HR P3 P) :: valsR (.slice va_210_1 P2.length vc_210_1) P2 :: valsR (.slice (some ⟨gn, 0, none⟩) P.length vc_206_2) (P.set p x) :: boxE qq0_26 :: valsR (.slice va_114_1 P.length vc_114_1) P :: boxN qb201 indexError :: boxN qb191 typeError :: boxN qb181 typeError :: boxN qb171 typeError :: boxZ qq0_16 :: boxN qq1_16 indexError :: boxZ qq0_15 :: boxN qq1_15 indexError :: valsR (.slice (some ⟨g, og, none⟩) P.length vc_8_1) P :: boxW qB2 4 2 ⟨#[]⟩ :: boxW qA2 4 1 ⟨#[]⟩ :: boxV q4 x :: []) fun b31_212 hb31_212 => ?_
                    have Hb31_212 := Lib.hid hb31_212
                    have Kb31_212 : Hid (∀ W (Q : List Res), Sep w (Q ++ b31_212) W → True) := Lib.hid fun W Q T => by
                      rw [hb31_212] at T
                      trivial
                    have KW : Hid (∀ W (Q : List Res), Sep w (Q ++ b31_212) W → SeesV W (.slice (some ⟨g, og, none⟩) P.length vc_8_1) P) := Lib.hid fun W Q T => by rw [Hb31_212.out] at T; exact T.seesV (Q.length + 14) (by rw [List.getElem?_append_right (by omega), Nat.add_sub_cancel_left]; rfl)
                    replace S := Lib.hid S
                    clear hb31_212
                    go_upto_region 31 with fail
                    have S1 : Sep w ([] ++ b31_212) (wc) := by rw [Hb31_212.out]; exact S.out
                    clear S
                    refine regionS (E := [emptyR]) (base := b31_212) (Sep.putE S1) ?_
                    clear S1
                    refine quietS 1 ?_
                    simp only [Act.put, pa]; try dsimp only [List.set]
                    refine quietS 2 ?_
                    simp only [Act.put, pa]; try dsimp only [List.set]
                    refine quietS 3 ?_
                    simp only [Act.put, pa]; try dsimp only [List.set]
                    refine quietS 5 ?_
                    simp only [Act.put, pa]; try dsimp only [List.set]
                    refine quietS 6 ?_
                    simp only [Act.put, pa]; try dsimp only [List.set]
                    refine quietS 7 ?_
                    simp only [Act.put, pa]; try dsimp only [List.set]
                    refine quietS 8 (v := .slice (capAt vc_8_1 (p + 1) g og) (P.length - (p + 1)) (vc_8_1 - (p + 1))) (hy := fun E Wx hSw => by (go_simp; exact ⟨rfl, hSw⟩)) (h := ?_)
                    simp only [Act.put, pa]; try dsimp only [List.set]
                    refine readyS [0] ?_
                    refine stepS (fun v E1 => ∃ (q_214_1 : Nat), v = .slice (some ⟨q_214_1, 0, none⟩) 0 0 ∧ E1 = [valsR (.slice (some ⟨q_214_1, 0, none⟩) 0 0) []]) (h1 := fun Wx hSw => by (go_simp; exact ⟨_, ⟨_, rfl, rfl⟩, (hSw.madeRow V.cells 3 29).into 0 rfl⟩)) (h2 := fun v E1 hvE => ?_) (hs := nilS)
                    obtain ⟨q_214_1, rfl, rfl⟩ := hvE
                    simp only [Act.put, pa]; try dsimp only [List.set]
                    refine readyS [4] ?_
                    refine stepS (fun v E1 => ∃ (va_214_2 : Option Addr) (vc_214_2 : Nat), v = .slice va_214_2 p vc_214_2 ∧ E1 = [valsR (.slice va_214_2 p vc_214_2) (P.take p)]) (h1 := fun Wx hSw => by (obtain ⟨va, vc, w2, hr, S2⟩ := hSw.appendV 0 rfl rfl ((KW.out _ _ hSw).head (Nat.le_of_lt HPL.out)) p (by rw [Nat.zero_add, List.length_take]; have := HPL.out; omega) (Nat.le_trans (Nat.le_of_lt HPL.out) (Nat.le_trans H8.out (by decide))); exact symAppend _ _ _ _ rfl _ _ rfl rfl hr ⟨_, ⟨va, vc, rfl, rfl⟩, S2⟩)) (h2 := fun v E1 hvE => ?_) (hs := nilS)
                    obtain ⟨va_214_2, vc_214_2, rfl, rfl⟩ := hvE
                    simp only [Act.put, pa]; try dsimp only [List.set]
                    refine readyS [9] ?_
                    refine stepS (fun v E1 => ∃ (va_214_3 : Option Addr) (vc_214_3 : Nat), v = .slice va_214_3 P3.length vc_214_3 ∧ E1 = [valsR (.slice va_214_3 P3.length vc_214_3) (P.take p ++ P.drop (p + 1))]) (h1 := fun Wx hSw => by (obtain ⟨va, vc, w2, hr, S2⟩ := hSw.appendV 0 rfl (by rw [List.length_take]; have := HPL.out; omega) ((KW.out _ _ hSw).rest (i := p + 1) HPL.out) P3.length (by rw [HRE.out, List.length_append, List.length_take]; have := HPL.out; omega) (Nat.le_trans HP3.out (by decide)); exact symAppend _ _ _ _ rfl _ _ rfl rfl hr ⟨_, ⟨va, vc, rfl, rfl⟩, S2⟩)) (h2 := fun v E1 hvE => ?_) (hs := nilS)
                    obtain ⟨va_214_3, vc_214_3, rfl, rfl⟩ := hvE
                    simp only [Act.put, pa]; try dsimp only [List.set]
                    refine quietS 10 ?_
                    simp only [Act.put, pa]; try dsimp only [List.set]
                    refine doneS (h := fun w214 S => ?_)
                    replace S : Sep w (valsR (.slice va_214_3 P3.length vc_214_3) (P.take p ++ P.drop (p + 1)) :: boxE qq0_30 :: heapR h (HR P3 P) :: valsR (.slice va_210_1 P2.length vc_210_1) P2 :: valsR (.slice (some ⟨gn, 0, none⟩) P.length vc_206_2) (P.set p x) :: boxE qq0_26 :: valsR (.slice va_114_1 P.length vc_114_1) P :: boxN qb201 indexError :: boxN qb191 typeError :: boxN qb181 typeError :: boxN qb171 typeError :: boxZ qq0_16 :: boxN qq1_16 indexError :: boxZ qq0_15 :: boxN qq1_15 indexError :: valsR (.slice (some ⟨g, og, none⟩) P.length vc_8_1) P :: boxW qB2 4 2 ⟨#[]⟩ :: boxW qA2 4 1 ⟨#[]⟩ :: boxV q4 x :: []) w214 := by rw [Hb31_212.out] at S; exact S
                    clear Hb31_212 Kb31_212 KW
                    refine named (valsR (.slice va_214_3 P3.length vc_214_3) (P.take p ++ P.drop (p + 1)) :: boxE qq0_30 :: heapR h (HR P3 P) :: valsR (.slice va_210_1 P2.length vc_210_1) P2 :: valsR (.slice (some ⟨gn, 0, none⟩) P.length vc_206_2) (P.set p x) :: boxE qq0_26 :: valsR (.slice va_114_1 P.length vc_114_1) P :: boxN qb201 indexError :: boxN qb191 typeError :: boxN qb181 typeError :: boxN qb171 typeError :: boxZ qq0_16 :: boxN qq1_16 indexError :: boxZ qq0_15 :: boxN qq1_15 indexError :: valsR (.slice (some ⟨g, og, none⟩) P.length vc_8_1) P :: boxW qB2 4 2 ⟨#[]⟩ :: boxW qA2 4 1 ⟨#[]⟩ :: boxV q4 x :: []) fun b32_214 hb32_214 => ?_
                    have Hb32_214 := Lib.hid hb32_214
                    have Kb32_214 : Hid (∀ W (Q : List Res), Sep w (Q ++ b32_214) W → True) := Lib.hid fun W Q T => by
                      rw [hb32_214] at T
                      trivial
                    have Cb32_214_0 : Hid (∀ W (Q : List Res), Sep w (Q ++ b32_214) W → W.cell? ⟨qA2, 0, none⟩ = some (.int .i64 4) ∧ W.cell? ⟨qA2, 1, none⟩ = some (.int .i64 1) ∧ W.cell? ⟨qA2, 2, none⟩ = some (.string ⟨#[]⟩)) := Lib.hid fun W Q T => by
                      rw [hb32_214] at T
                      have i0 := T.box (b := qA2) (o := objW 4 1 ⟨#[]⟩) (Q.length + 17) (by rw [List.getElem?_append_right (by omega), Nat.add_sub_cancel_left]; rfl)
                      exact ⟨cellAt i0 0 rfl, cellAt i0 1 rfl, cellAt i0 2 rfl⟩
                    have Cb32_214_1 : Hid (∀ W (Q : List Res), Sep w (Q ++ b32_214) W → W.cell? ⟨qq0_26, 0, none⟩ = some (.string ⟨#[]⟩) ∧ W.cell? ⟨qq0_26, 1, none⟩ = some (.int .i64 0) ∧ W.cell? ⟨qq0_26, 2, none⟩ = some (.int .i64 0) ∧ W.cell? ⟨qq0_26, 3, none⟩ = some (.string ⟨#[]⟩) ∧ W.cell? ⟨qq0_26, 4, none⟩ = some (.bool false)) := Lib.hid fun W Q T => by
                      rw [hb32_214] at T
                      have i0 := T.box (b := qq0_26) (o := objE) (Q.length + 5) (by rw [List.getElem?_append_right (by omega), Nat.add_sub_cancel_left]; rfl)
                      exact ⟨cellAt i0 0 rfl, cellAt i0 1 rfl, cellAt i0 2 rfl, cellAt i0 3 rfl, cellAt i0 4 rfl⟩
                    have Cb32_214_2 : Hid (∀ W (Q : List Res), Sep w (Q ++ b32_214) W → W.cell? ⟨qq0_30, 0, none⟩ = some (.string ⟨#[]⟩) ∧ W.cell? ⟨qq0_30, 1, none⟩ = some (.int .i64 0) ∧ W.cell? ⟨qq0_30, 2, none⟩ = some (.int .i64 0) ∧ W.cell? ⟨qq0_30, 3, none⟩ = some (.string ⟨#[]⟩) ∧ W.cell? ⟨qq0_30, 4, none⟩ = some (.bool false)) := Lib.hid fun W Q T => by
                      rw [hb32_214] at T
                      have i0 := T.box (b := qq0_30) (o := objE) (Q.length + 1) (by rw [List.getElem?_append_right (by omega), Nat.add_sub_cancel_left]; rfl)
                      exact ⟨cellAt i0 0 rfl, cellAt i0 1 rfl, cellAt i0 2 rfl, cellAt i0 3 rfl, cellAt i0 4 rfl⟩
                    have K32_1 : Hid (∀ W (Q : List Res), Sep w (Q ++ b32_214) W → Calls Tryz.prog 19 #[excZ] W fun e W' => e = .returned (.bool true) ∧ Sep w (Q ++ b32_214) W') := Lib.hid fun W Q T => by
                      exact (none_z W).mono fun e W' ⟨e1, e2⟩ => ⟨e1, T.later e2⟩
                    have K32_9 : Hid (∀ W (Q : List Res), Sep w (Q ++ b32_214) W → Calls Tryz.prog 19 #[excZ] W fun e W' => e = .returned (.bool true) ∧ Sep w (Q ++ b32_214) W') := Lib.hid fun W Q T => by
                      exact (none_z W).mono fun e W' ⟨e1, e2⟩ => ⟨e1, T.later e2⟩
                    have KI32_14 : Hid (∀ W (Q : List Res), Sep w (Q ++ b32_214) W → Calls Tryz.prog 31 #[.pointer (some ⟨h, 0, none⟩), .agg #[.int .i64 4, .int .i64 1, .string ⟨#[]⟩]] W fun e W' => ∃ a c, e = .returned (.slice a P3.length c) ∧ Sep w (valsR (.slice a P3.length c) P3 :: (Q ++ b32_214)) W') := Lib.hid fun W Q T => by
                      rw [Hb32_214.out] at T ⊢
                      exact items_at T (Q.length + 2) (by rw [List.getElem?_append_right (by omega), Nat.add_sub_cancel_left]; rfl) (HR_good HP3.out H8.out) (by decide) vA P3 rfl
                    have KM : Hid (∀ W (Q : List Res), Sep w (Q ++ b32_214) W → SeesV W (.slice va_210_1 P2.length vc_210_1) P2) := Lib.hid fun W Q T => by rw [Hb32_214.out] at T; exact T.seesV (Q.length + 3) (by rw [List.getElem?_append_right (by omega), Nat.add_sub_cancel_left]; rfl)
                    have KN : Hid (∀ W (Q : List Res), Sep w (Q ++ b32_214) W → SeesV W (.slice (some ⟨gn, 0, none⟩) P.length vc_206_2) (P.set p x)) := Lib.hid fun W Q T => by rw [Hb32_214.out] at T; exact T.seesV (Q.length + 4) (by rw [List.getElem?_append_right (by omega), Nat.add_sub_cancel_left]; rfl)
                    have KL : Hid (∀ W (Q : List Res), Sep w (Q ++ b32_214) W → SeesV W (.slice va_214_3 P3.length vc_214_3) (P.take p ++ P.drop (p + 1))) := Lib.hid fun W Q T => by rw [Hb32_214.out] at T; exact T.seesV (Q.length + 0) (by rw [List.getElem?_append_right (by omega), Nat.add_sub_cancel_left]; rfl)
                    replace S := Lib.hid S
                    clear hb32_214
                    go_upto_region 32 with fail
                    have S1 : Sep w ([] ++ b32_214) (w214) := by rw [Hb32_214.out]; exact S.out
                    clear S
                    refine regionL (E := [emptyR]) (base := b32_214) (Sep.putE S1) ?_
                    clear S1
                    refine quietL (hy := fun E Wx hSw => by ((refine and5 (Cb32_214_1.out _ _ hSw) fun u0 u1 u2 u3 u4 => ?_); go_simp; exact ⟨rfl, hSw⟩)) (h := ?_)
                    simp only [Act.put, pa]; try dsimp only [List.set]
                    refine quietL (hy := fun E Wx hSw => by (go_simp; exact symCall (K32_1.out _ _ hSw))) (h := ?_)
                    simp only [Act.put, pa]; try dsimp only [List.set]
                    iterate 3 (refine quietL ?_; simp only [Act.put, pa]; try dsimp only [List.set])
                    refine detL (.bool true) [emptyR] (h1 := fun Wx hSw => by (go_simp; refine symCall ?_; exact same_at hSw (KM.out _ _ hSw) (KN.out _ _ hSw) HQ.out)) (h2 := ?_)
                    simp only [Act.put, pa]; try dsimp only [List.set]
                    iterate 2 (refine quietL ?_; simp only [Act.put, pa]; try dsimp only [List.set])
                    refine quietL (hy := fun E Wx hSw => by ((refine and5 (Cb32_214_2.out _ _ hSw) fun u0 u1 u2 u3 u4 => ?_); go_simp; exact ⟨rfl, hSw⟩)) (h := ?_)
                    simp only [Act.put, pa]; try dsimp only [List.set]
                    refine quietL (hy := fun E Wx hSw => by (go_simp; exact symCall (K32_9.out _ _ hSw))) (h := ?_)
                    simp only [Act.put, pa]; try dsimp only [List.set]
                    iterate 3 (refine quietL ?_; simp only [Act.put, pa]; try dsimp only [List.set])
                    refine quietL (hy := fun E Wx hSw => by ((refine and3 (Cb32_214_0.out _ _ hSw) fun u0 u1 u2 => ?_); go_simp; exact ⟨rfl, hSw⟩)) (h := ?_)
                    simp only [Act.put, pa]; try dsimp only [List.set]
                    refine stepL (fun v E1 => ∃ (va_216_2 : Option Addr) (vc_216_2 : Nat), v = .slice va_216_2 P3.length vc_216_2 ∧ E1 = [valsR (.slice va_216_2 P3.length vc_216_2) P3]) (h1 := fun Wx hSw => by (go_simp; refine symCallN ?_; exact (KI32_14.out _ _ hSw).mono fun e W' ⟨a, c, e1, e2⟩ => ⟨_, _, e1, ⟨a, c, rfl, rfl⟩, e2.into 0 rfl⟩)) (h2 := fun v E1 hvE => ?_)
                    obtain ⟨va_216_2, vc_216_2, rfl, rfl⟩ := hvE
                    simp only [Act.put, pa]; try dsimp only [List.set]
                    refine quietL ?_
                    simp only [Act.put, pa]; try dsimp only [List.set]
                    refine detL (.bool true) [valsR (.slice va_216_2 P3.length vc_216_2) P3] (h1 := fun Wx hSw => by (go_simp; refine symCall ?_; exact same_at hSw (hSw.seesV 0 rfl) (KL.out _ _ hSw) HRE.out)) (h2 := ?_)
                    simp only [Act.put, pa]; try dsimp only [List.set]
                    iterate 2 (refine quietL ?_; simp only [Act.put, pa]; try dsimp only [List.set])
                    intro w216 S
                    replace S : Sep w (valsR (.slice va_216_2 P3.length vc_216_2) P3 :: valsR (.slice va_214_3 P3.length vc_214_3) (P.take p ++ P.drop (p + 1)) :: boxE qq0_30 :: heapR h (HR P3 P) :: valsR (.slice va_210_1 P2.length vc_210_1) P2 :: valsR (.slice (some ⟨gn, 0, none⟩) P.length vc_206_2) (P.set p x) :: boxE qq0_26 :: valsR (.slice va_114_1 P.length vc_114_1) P :: boxN qb201 indexError :: boxN qb191 typeError :: boxN qb181 typeError :: boxN qb171 typeError :: boxZ qq0_16 :: boxN qq1_16 indexError :: boxZ qq0_15 :: boxN qq1_15 indexError :: valsR (.slice (some ⟨g, og, none⟩) P.length vc_8_1) P :: boxW qB2 4 2 ⟨#[]⟩ :: boxW qA2 4 1 ⟨#[]⟩ :: boxV q4 x :: []) w216 := by rw [Hb32_214.out] at S; exact S
                    clear Hb32_214 Kb32_214 K32_1 K32_9 KI32_14 KM KN KL Cb32_214_0 Cb32_214_1 Cb32_214_2
                    replace S := Lib.hid S.below
                    go_wp2
                    go_ret
                    exact ⟨rfl, by rw [← HQ4.out]; exact S.out⟩
set_option maxRecDepth 100000 in
theorem lifted (os : Os) (started : os.Started) (H : Type) (enc : TypeId × Value → H) :
    ReturnsInHanded {} Tryz.checked os 11 .any (Rows.operateItemsSpec.pre6 enc Tryz.prog Tryz.f11 Rows.operateItemsRow.domain false) (Rows.operateItemsSpec.post enc Tryz.prog Tryz.f11 false true false false) := by
  refine law_lift (C := Tryz.checked) own started (by kernel_rfl) Tryz.func11
    (ChangeSpec.witness6 (enc := enc) (C := Tryz.checked) false ⟨#[], #[.slice none 0 0, .agg #[.int .i64 0, .int .i64 0, .string ⟨#[]⟩], .int .u8 0], []⟩ 8 (by kernel_rfl) (by kernel_rfl) (by kernel_rfl) (by kernel_rfl))
    (by kernel_rfl) (by kernel_rfl) rfl (fun ds h => by
      match ds, h with
      | [d1, d2, d3], _ => exact ⟨rfl, rfl, rfl⟩) rfl Tryz.underlying4 ?_
  intro W base args ds ps hval hA hlt hwt hsh
  rw [Tryz.params11] at hA hval
  obtain ⟨v0, vs0, d0, ds0, p0, q0, hargs, rfl, rfl, h0, r0⟩ := trodAll_cons hA
  obtain ⟨v1, vs1, d1, ds1, p1, q1, rfl, rfl, rfl, h1, r1⟩ := trodAll_cons r0
  obtain ⟨v2, vs2, d2, ds2, p2, q2, rfl, rfl, rfl, h2, r2⟩ := trodAll_cons r1
  obtain ⟨rfl, rfl, rfl⟩ := trodAll_nil r2
  obtain rfl : args = #[v0, v1, v2] := by cases args; simp_all
  obtain ⟨x0, len0, cap0, rfl⟩ := okWide_slice Tryz.underlying22 (hval 0 22 v0 rfl rfl)
  obtain ⟨fuel0, hf0⟩ := h0
  obtain ⟨l0, s0, g0⟩ := open_vals (v := .slice x0 len0 cap0) hf0
  obtain ⟨cs1, rfl, hsz1⟩ := okWide_struct Tryz.underlying29 (hval 1 29 v1 rfl rfl)
  obtain ⟨fuel1, hf1⟩ := h1
  obtain ⟨x1, e1⟩ := val_of_trod (cs := cs1.toList) hf1
  obtain rfl : cs1 = x1.cells.toArray := by rw [← e1]
  obtain ⟨a2, rfl, rfl, rfl, w2⟩ := open_int Tryz.underlying5 (hval 2 5 v2 rfl rfl) h2
  -- WALK
  exact walk W _ l0 s0 x1 a2 w2
theorem proved : Rows.OperateItemsSaid :=
  OpenClaim.holds_of_wide 11 Tryz.f11 rfl rfl rfl rfl rfl rfl rfl ⟨rfl, rfl, rfl, rfl, rfl⟩ rfl rfl rfl rfl rfl (by kernel_rfl) Tryz.func11 (by kernel_rfl)
    (of_decide_eq_true (by kernel_rfl)) (by unfold Func.isWrapper; first | (rw [if_pos (by decide +kernel)]; kernel_rfl) | (rw [if_neg (by decide +kernel)]; exact ⟨rfl, rfl⟩))
    (fun os started H enc _ => lifted os started H enc)
#print axioms proved
end Go.Proofs.YtellmfimmghidaaGreat.operateItems
