/-
  OperateLimits: for any two bytes, the law returns true: how many items sums and products may have, and how long what is told may be. No condition.
-/
import Derived.Test.YtellmfimmghidaaGreatFrame
import Derived.Test.YtellmfimmghidaaGreatLimitsA
namespace Go.Proofs.YtellmfimmghidaaGreat.operateLimits
set_option linter.unusedSimpArgs false
open Go.ChangeShapes Go.WideShapes Go.ChangeAt Go.RowKit
open Go.ChangeMaps (open_string)
set_option linter.unusedVariables false
attribute [local irreducible] wpSeqS wpAnyS wpPreS
set_option maxRecDepth 100000 in
set_option maxHeartbeats 12800000 in
theorem walk_no (w : World) (n m : Int) (hn : (Lit.int .u8 n).wf = true) (hm : (Lit.int .u8 m).wf = true) (hfit : ¬ limM n m ≤ 4096) :
    Calls Tryz.prog 5 #[.int .u8 n, .int .u8 m] w fun e W' => e = .returned (.bool true) ∧ Below w.heap.size w W' := by
  obtain ⟨r6, hr6, hr6b⟩ := rest_of (byte_range hn).1 (show 0 < 64 by decide)
  obtain ⟨r7, hr7, hr7b⟩ := rest_of (byte_range hm).1 (show 0 < 7 by decide)
  obtain ⟨r31, hr31, hr31b⟩ := rest_of (byte_range hm).1 (show 0 < 31 by decide)
  replace hr6 : n.tmod 64 = (r6 : Int) := hr6
  replace hr7 : m.tmod 7 = (r7 : Int) := hr7
  replace hr31 : m.tmod 31 = (r31 : Int) := hr31
  obtain ⟨k, hk⟩ : ∃ k, k = 1 + r6 := ⟨_, rfl⟩
  obtain ⟨q, hq, hq1, hq2, hq3, hq4⟩ := quo_at (k := k) (by omega) (by omega)
  obtain ⟨t, ht⟩ : ∃ t, t = q - 3 + r7 := ⟨_, rfl⟩
  obtain ⟨M, hM⟩ : ∃ M, t * k = M := ⟨_, rfl⟩
  have hf : ¬ M ≤ 4096 := by
    have e : limM n m = M := by
      unfold limM
      rw [hr6, hr7, Int.toNat_natCast, Int.toNat_natCast, ← hk, ← hq4, ← ht, hM]
    rw [← e]; exact hfit
  clear hfit hq4
  have hMb : M ≤ 4600 := by
    have h1 : t * k ≤ (q + 7) * k := Nat.mul_le_mul_right _ (by omega)
    rw [Nat.add_mul] at h1; omega
  have HK := Lib.hid (show 1 ≤ k ∧ k ≤ 64 by omega)
  have HTQ := Lib.hid (show 61 ≤ t ∧ t ≤ 5000 by omega)
  have HM := Lib.hid hM
  have HMB := Lib.hid hMb
  obtain ⟨L, hL⟩ : ∃ L, L = 65519 + r31 := ⟨_, rfl⟩
  have HL := Lib.hid (show 65519 ≤ L ∧ L ≤ 65549 by omega)
  have hw5 : IntKind.i64.wrap (1 + (r6 : Int)) = (k : Int) := by rw [hk]; exact (IntWalk.i64_in _ (by omega)).trans (by omega)
  have hw6 : IntKind.i64.wrap (r6 : Int) = (r6 : Int) := IntWalk.i64_in _ (by omega)
  have H5 := Lib.hid (And.intro hr6 (And.intro hw6 hw5))
  have hw7 : IntKind.i64.wrap (r7 : Int) = (r7 : Int) := IntWalk.i64_in _ (by omega)
  have hwq : IntKind.i64.wrap (q : Int) = (q : Int) := IntWalk.i64_in _ (by omega)
  have hwt : IntKind.i64.wrap ((q : Int) - 3) = (q : Int) - 3 := IntWalk.i64_in _ (by omega)
  have hwt2 : IntKind.i64.wrap ((q : Int) - 3 + (r7 : Int)) = (t : Int) := by rw [ht]; exact (IntWalk.i64_in _ (by omega)).trans (by omega)
  have H7 := Lib.hid (And.intro hr7 (And.intro hw7 (And.intro hq (And.intro hwq (And.intro hwt hwt2)))))
  have hw31 : IntKind.i64.wrap (r31 : Int) = (r31 : Int) := IntWalk.i64_in _ (by omega)
  have hw32 : IntKind.i64.wrap (65521 + (r31 : Int)) = ((L + 2 : Nat) : Int) := by rw [hL]; exact (IntWalk.i64_in _ (by omega)).trans (by omega)
  have H19 := Lib.hid (And.intro hr31 (And.intro hw31 hw32))
  clear hr6 hr6b hr7 hr7b hr31 hr31b hk hq hq1 hq2 hq3 ht hM hMb hL hw5 hw6 hw7 hwq hwt hwt2 hw31 hw32 hn hm
  have S := Sep.start (Below.refl w.heap.size w)
  have M0 := Lib.hid (shown_ok S)
  clear S
  go_enter Tryz.func5, Tryz.ntmps5
  go_wp2_with fail
  refine M0.out.mono ?_
  rintro e w1 ⟨rfl, S⟩
  clear M0
  have MN := Lib.hid S.new
  clear S
  go_wp2_with fail
  refine MN.out.mono ?_
  rintro e w2 ⟨h, rfl, S, -⟩
  clear MN
  replace S : Sep w (heapR h (HX []) :: []) _ := S
  have HG0 := Lib.hid HXL.nil
  obtain ⟨q1, q2, q3⟩ := H5.out
  refine named (heapR h (HX []) :: [] : List Res) fun b5_2 hb5_2 => ?_
  have Hb5_2 := Lib.hid hb5_2
  have Kb5_2 : Hid (∀ W (Q : List Res), Sep w (Q ++ b5_2) W → True) := Lib.hid fun W Q T => by
    rw [hb5_2] at T
    trivial
  replace S := Lib.hid S
  clear hb5_2
  go_upto_region 5 with fail
  have S1 : Sep w ([] ++ b5_2) (w2) := by rw [Hb5_2.out]; exact S.out
  clear S
  refine regionL (E := []) (base := b5_2) S1 ?_
  clear S1
  iterate 5 (refine quietL ?_; simp only [Act.put, pa]; try dsimp only [List.set])
  refine doneL (h := fun w4 S => ?_)
  replace S : Sep w (heapR h (HX []) :: []) w4 := by rw [Hb5_2.out] at S; exact S
  clear Hb5_2 Kb5_2
  clear q1 q2 q3
  have HG1 : Hid (HXL [rowO 1 (by decide) (List.replicate k V.zero)]) := Lib.hid (HG0.out.snoc (by rw [List.length_replicate]; have := HK.out; omega))
  replace S : Sep w (heapR h (HX []) :: []) (w4) := by
    refine (show Sep w ([heapR h (HX [])] ++ []) _ from S).perm ?_
    exact List.Perm.append_right [] (perm_of (l := [heapR h (HX [])]) [0] (by show (List.range' 0 1).Perm [0]; decide) (by rfl))
  refine named ([] : List Res) fun b6_4 hb6_4 => ?_
  have Hb6_4 := Lib.hid hb6_4
  have Kb6_4 : Hid (∀ W (Q : List Res), Sep w (Q ++ b6_4) W → True) := Lib.hid fun W Q T => by
    rw [hb6_4] at T
    trivial
  replace S := Lib.hid S
  clear hb6_4
  go_upto_region 6 with fail
  have S1 : Sep w ([heapR h (HX [])] ++ b6_4) (w4) := by rw [Hb6_4.out]; exact S.out
  clear S
  refine regionL (E := [emptyR, emptyR, heapR h (HX [])]) (base := b6_4) (Sep.putE (Sep.putE S1)) ?_
  clear S1
  iterate 2 (refine quietL ?_; simp only [Act.put, pa]; try dsimp only [List.set])
  refine stepL (fun v E1 => ∃ (q_6_1 : Nat), v = .slice (some ⟨q_6_1, 0, none⟩) k k ∧ E1 = [emptyR, valsR (.slice (some ⟨q_6_1, 0, none⟩) k k) (List.replicate k V.zero), heapR h (HX [])]) (h1 := fun Wx hSw => by (obtain ⟨g, w2, hr, S2⟩ := Sep.makeV hSw k (by have := HK.out; omega); exact symMake _ _ _ rfl _ _ rfl rfl hr ⟨_, ⟨_, rfl, rfl⟩, S2.into 1 rfl⟩)) (h2 := fun v E1 hvE => ?_)
  obtain ⟨q_6_1, rfl, rfl⟩ := hvE
  simp only [Act.put, pa]; try dsimp only [List.set]
  refine detL (.agg #[.int .i64 4, .int .i64 1, .string ⟨#[]⟩]) [emptyR, valsR (.slice (some ⟨q_6_1, 0, none⟩) k k) (List.replicate k V.zero), heapR h (HX [rowO 1 (by decide) (List.replicate k V.zero)])] (h1 := fun Wx hSw => by (go_simp; refine symCall ?_; have hh := hSw.make 2 rfl (HG0.out.good (by simp)) (by decide) (rowO 1 (by decide) (List.replicate k V.zero)) (.slice (some ⟨q_6_1, 0, none⟩) k k) (hSw.seesV 1 rfl) (by show (List.replicate k V.zero).length ≤ 4194304; rw [List.length_replicate]; have := HK.out; omega) rfl (show (1 : Int) ≤ 1 by decide) (show (1 : Int) ≤ 12 by decide); exact hh)) (h2 := ?_)
  simp only [Act.put, pa]; try dsimp only [List.set]
  refine allocL 0 rfl (fun q => .pointer (some ⟨q, 0, none⟩)) (.cells #[.int .i64 0, .int .i64 0, .string ⟨#[]⟩] 29) (h1 := fun Wx => by go_simp) (h2 := fun qv3 => ?_)
  simp only [Act.put, pa]; try dsimp only [List.set]
  try simp only [List.set_cons_zero, List.set_cons_succ]
  refine detL undef [boxW qv3 4 1 ⟨#[]⟩, valsR (.slice (some ⟨q_6_1, 0, none⟩) k k) (List.replicate k V.zero), heapR h (HX [rowO 1 (by decide) (List.replicate k V.zero)])] (h1 := fun Wx hSw => by (have hz := hSw.box (b := qv3) (o := objZ) 0 rfl; refine useZ3 hz fun z0 z1 z2 y0 y1 y2 => ?_; go_simp; exact ⟨rfl, hSw.set3 0 rfl (.int .i64 4) (.int .i64 1) (.string ⟨#[]⟩)⟩)) (h2 := ?_)
  simp only [Act.put, pa]; try dsimp only [List.set]
  refine doneL (h := fun w6 S => ?_)
  replace S : Sep w (boxW qv3 4 1 ⟨#[]⟩ :: valsR (.slice (some ⟨q_6_1, 0, none⟩) k k) (List.replicate k V.zero) :: heapR h (HX [rowO 1 (by decide) (List.replicate k V.zero)]) :: []) w6 := by rw [Hb6_4.out] at S; exact S
  clear Hb6_4 Kb6_4
  obtain ⟨q1, q2, q3, q4, q5, q6⟩ := H7.out
  have q7 : ¬ (k : Int) = 0 := by have := HK.out; omega
  have q8 : ((k : Int) == 0) = false := by simpa using q7
  have q9 : ¬ k = 0 := by omega
  refine named (boxW qv3 4 1 ⟨#[]⟩ :: valsR (.slice (some ⟨q_6_1, 0, none⟩) k k) (List.replicate k V.zero) :: heapR h (HX [rowO 1 (by decide) (List.replicate k V.zero)]) :: [] : List Res) fun b7_6 hb7_6 => ?_
  have Hb7_6 := Lib.hid hb7_6
  have Kb7_6 : Hid (∀ W (Q : List Res), Sep w (Q ++ b7_6) W → True) := Lib.hid fun W Q T => by
    rw [hb7_6] at T
    trivial
  replace S := Lib.hid S
  clear hb7_6
  go_upto_region 7 with fail
  have S1 : Sep w ([] ++ b7_6) (w6) := by rw [Hb7_6.out]; exact S.out
  clear S
  refine regionL (E := []) (base := b7_6) S1 ?_
  clear S1
  iterate 8 (refine quietL ?_; simp only [Act.put, pa]; try dsimp only [List.set])
  refine doneL (h := fun w8 S => ?_)
  replace S : Sep w (boxW qv3 4 1 ⟨#[]⟩ :: valsR (.slice (some ⟨q_6_1, 0, none⟩) k k) (List.replicate k V.zero) :: heapR h (HX [rowO 1 (by decide) (List.replicate k V.zero)]) :: []) w8 := by rw [Hb7_6.out] at S; exact S
  clear Hb7_6 Kb7_6
  clear q1 q2 q3 q4 q5 q6 q7 q8 q9
  have HTI : Hid (okI (t : Int)) := Lib.hid (okI_of (by have := HTQ.out; omega))
  have HF := Lib.hid hf
  clear hf
  refine named (boxW qv3 4 1 ⟨#[]⟩ :: valsR (.slice (some ⟨q_6_1, 0, none⟩) k k) (List.replicate k V.zero) :: heapR h (HX [rowO 1 (by decide) (List.replicate k V.zero)]) :: [] : List Res) fun b8_8 hb8_8 => ?_
  have Hb8_8 := Lib.hid hb8_8
  have Kb8_8 : Hid (∀ W (Q : List Res), Sep w (Q ++ b8_8) W → True) := Lib.hid fun W Q T => by
    rw [hb8_8] at T
    trivial
  have Cb8_8_0 : Hid (∀ W (Q : List Res), Sep w (Q ++ b8_8) W → W.cell? ⟨qv3, 0, none⟩ = some (.int .i64 4) ∧ W.cell? ⟨qv3, 1, none⟩ = some (.int .i64 1) ∧ W.cell? ⟨qv3, 2, none⟩ = some (.string ⟨#[]⟩)) := Lib.hid fun W Q T => by
    rw [hb8_8] at T
    have i0 := T.box (b := qv3) (o := objW 4 1 ⟨#[]⟩) (Q.length + 0) (by rw [List.getElem?_append_right (by omega), Nat.add_sub_cancel_left]; rfl)
    exact ⟨cellAt i0 0 rfl, cellAt i0 1 rfl, cellAt i0 2 rfl⟩
  have K8_3 : Hid (∀ W (Q : List Res), Sep w (Q ++ b8_8) W → Calls Tryz.prog 16 #[.int .i64 t] W fun e W' => e = .returned (.agg #[.int .i64 2, .int .i64 t, .string ⟨#[]⟩]) ∧ Sep w (Q ++ b8_8) W') := Lib.hid fun W Q T => by
    exact (lnum_ok W t).mono fun e W' ⟨e1, e2⟩ => ⟨e1, T.later e2⟩
  have K8_4 : Hid (∀ W (Q : List Res), Sep w (Q ++ b8_8) W → Calls Tryz.prog 23 #[.pointer (some ⟨h, 0, none⟩), .string ⟨#[42]⟩, .agg #[.int .i64 4, .int .i64 1, .string ⟨#[]⟩], .agg #[.int .i64 2, .int .i64 t, .string ⟨#[]⟩]] W fun e W' => e = .returned (.tuple #[zeroV, excN memoryError]) ∧ Sep w (Q ++ b8_8) W') := Lib.hid fun W Q T => by
    rw [Hb8_8.out] at T ⊢
    exact bin_mul_row_no T (Q.length + 2) (by rw [List.getElem?_append_right (by omega), Nat.add_sub_cancel_left]; rfl) (HG1.out.good (by simp)) (by decide) (vX 1 (by decide)) (vI t HTI.out) rfl rfl (by show 4096 < (t : Int).toNat * (List.replicate k V.zero).length; rw [Int.toNat_natCast, List.length_replicate, HM.out]; have := HF.out; omega)
  replace S := Lib.hid S
  clear hb8_8
  go_upto_region 8 with fail
  go_cut [10, 11] (fun s10 s11 wx => ∃ qq0_8 qq1_8, s10 = .pointer (some ⟨qq0_8, 0, none⟩) ∧ s11 = .pointer (some ⟨qq1_8, 0, none⟩) ∧ Sep w ([boxZ qq0_8, boxN qq1_8 memoryError] ++ b8_8) wx)
  case first =>
    have S1 : Sep w ([] ++ b8_8) (w8) := by rw [Hb8_8.out]; exact S.out
    clear S
    refine regionP 8 4 (E := [emptyR, emptyR]) (base := b8_8) (Sep.putE (Sep.putE S1)) ?_
    clear S1
    refine quietP ?_
    simp only [Act.put, pa]; try dsimp only [List.set]
    refine quietP (hy := fun E Wx hSw => by ((refine and3 (Cb8_8_0.out _ _ hSw) fun u0 u1 u2 => ?_); go_simp; exact ⟨rfl, hSw⟩)) (h := ?_)
    simp only [Act.put, pa]; try dsimp only [List.set]
    refine quietP ?_
    simp only [Act.put, pa]; try dsimp only [List.set]
    refine quietP (hy := fun E Wx hSw => by (go_simp; exact symCall (K8_3.out _ _ hSw))) (h := ?_)
    simp only [Act.put, pa]; try dsimp only [List.set]
    refine quietP (hy := fun E Wx hSw => by (go_simp; exact symCall (K8_4.out _ _ hSw))) (h := ?_)
    simp only [Act.put, pa]; try dsimp only [List.set]
    iterate 3 (refine quietP ?_; simp only [Act.put, pa]; try dsimp only [List.set])
    refine endP ?_
    refine readyS [8, 9] ?_
    refine allocS 0 rfl (fun q => .pointer (some ⟨q, 0, none⟩)) (.cells #[.int .i64 0, .int .i64 0, .string ⟨#[]⟩] 29) (h1 := fun Wx => by go_simp) (h2 := fun qa81 => ?_) (hs := ?_)
    · simp only [Act.put, pa]; try dsimp only [List.set]
      try simp only [List.set_cons_zero, List.set_cons_succ]
      refine readyS [9] ?_
      refine allocS 1 rfl (fun q => .pointer (some ⟨q, 0, none⟩)) (.cells #[.string ⟨#[]⟩, .int .i64 0, .int .i64 0, .string ⟨#[]⟩, .bool false] 38) (h1 := fun Wx => by go_simp) (h2 := fun qe82 => ?_) (hs := nilS)
      simp only [Act.put, pa]; try dsimp only [List.set]
      try simp only [List.set_cons_zero, List.set_cons_succ]
      refine readyS [10] ?_
      refine detS undef [boxZ qa81, boxE qe82] (h1 := fun Wx hSw => by (have hz := hSw.box (b := qa81) (o := objZ) 0 rfl; refine useZ3 hz fun z0 z1 z2 y0 y1 y2 => ?_; go_simp; exact ⟨rfl, hSw.set3 0 rfl (.int .i64 0) (.int .i64 0) (.string ⟨#[]⟩)⟩)) (h2 := ?_) (hs := nilS)
      simp only [Act.put, pa]; try dsimp only [List.set]
      refine readyS [11] ?_
      refine detS undef [boxZ qa81, boxN qe82 memoryError] (h1 := fun Wx hSw => by (have hz := hSw.box (b := qe82) (o := objE) 1 rfl; refine useZ5 hz fun z0 z1 z2 z3 z4 y0 y1 y2 y3 y4 => ?_; go_simp; exact ⟨rfl, hSw.set5 1 rfl (.string memoryError) (.int .i64 0) (.int .i64 0) (.string ⟨#[]⟩) (.bool false)⟩)) (h2 := ?_) (hs := nilS)
      simp only [Act.put, pa]; try dsimp only [List.set]
      refine doneS (h := fun w10 S => ?_)
      go_wp2_with fail
      as_aux_lemma => (go_meet; exact ⟨_, _, rfl, rfl, S⟩)
    refine allocS 1 rfl (fun q => .pointer (some ⟨q, 0, none⟩)) (.cells #[.string ⟨#[]⟩, .int .i64 0, .int .i64 0, .string ⟨#[]⟩, .bool false] 38) (h1 := fun Wx => by go_simp) (h2 := fun qe85 => ?_) (hs := ?_)
    · simp only [Act.put, pa]; try dsimp only [List.set]
      try simp only [List.set_cons_zero, List.set_cons_succ]
      refine readyS [8] ?_
      refine allocS 0 rfl (fun q => .pointer (some ⟨q, 0, none⟩)) (.cells #[.int .i64 0, .int .i64 0, .string ⟨#[]⟩] 29) (h1 := fun Wx => by go_simp) (h2 := fun qa86 => ?_) (hs := nilS)
      simp only [Act.put, pa]; try dsimp only [List.set]
      try simp only [List.set_cons_zero, List.set_cons_succ]
      refine readyS [10] ?_
      refine detS undef [boxZ qa86, boxE qe85] (h1 := fun Wx hSw => by (have hz := hSw.box (b := qa86) (o := objZ) 0 rfl; refine useZ3 hz fun z0 z1 z2 y0 y1 y2 => ?_; go_simp; exact ⟨rfl, hSw.set3 0 rfl (.int .i64 0) (.int .i64 0) (.string ⟨#[]⟩)⟩)) (h2 := ?_) (hs := nilS)
      simp only [Act.put, pa]; try dsimp only [List.set]
      refine readyS [11] ?_
      refine detS undef [boxZ qa86, boxN qe85 memoryError] (h1 := fun Wx hSw => by (have hz := hSw.box (b := qe85) (o := objE) 1 rfl; refine useZ5 hz fun z0 z1 z2 z3 z4 y0 y1 y2 y3 y4 => ?_; go_simp; exact ⟨rfl, hSw.set5 1 rfl (.string memoryError) (.int .i64 0) (.int .i64 0) (.string ⟨#[]⟩) (.bool false)⟩)) (h2 := ?_) (hs := nilS)
      simp only [Act.put, pa]; try dsimp only [List.set]
      refine doneS (h := fun w10 S => ?_)
      go_wp2_with fail
      as_aux_lemma => (go_meet; exact ⟨_, _, rfl, rfl, S⟩)
    exact nilS
  case rest =>
    obtain ⟨qq0_8, qq1_8, rfl, rfl, S⟩ := hcut
    replace S : Sep w (boxZ qq0_8 :: boxN qq1_8 memoryError :: boxW qv3 4 1 ⟨#[]⟩ :: valsR (.slice (some ⟨q_6_1, 0, none⟩) k k) (List.replicate k V.zero) :: heapR h (HX [rowO 1 (by decide) (List.replicate k V.zero)]) :: []) wc := by rw [Hb8_8.out] at S; exact S
    clear Hb8_8 Kb8_8 K8_3 K8_4 Cb8_8_0
    have q1 : (t : Int) * (k : Int) = (M : Int) := by rw [← HM.out]; exact (Int.natCast_mul t k).symm
    have q2 : IntKind.i64.wrap (M : Int) = (M : Int) := IntWalk.i64_in _ (by have := HMB.out; omega)
    have q3 : ¬ (M : Int) ≤ 4096 := by have := HF.out; omega
    refine named (boxZ qq0_8 :: boxN qq1_8 memoryError :: boxW qv3 4 1 ⟨#[]⟩ :: valsR (.slice (some ⟨q_6_1, 0, none⟩) k k) (List.replicate k V.zero) :: heapR h (HX [rowO 1 (by decide) (List.replicate k V.zero)]) :: [] : List Res) fun b9_10 hb9_10 => ?_
    have Hb9_10 := Lib.hid hb9_10
    have Kb9_10 : Hid (∀ W (Q : List Res), Sep w (Q ++ b9_10) W → True) := Lib.hid fun W Q T => by
      rw [hb9_10] at T
      trivial
    replace S := Lib.hid S
    clear hb9_10
    go_upto_region 9 with fail
    have S1 : Sep w ([] ++ b9_10) (wc) := by rw [Hb9_10.out]; exact S.out
    clear S
    refine regionL (E := []) (base := b9_10) S1 ?_
    clear S1
    iterate 5 (refine quietL ?_; simp only [Act.put, pa]; try dsimp only [List.set])
    refine doneL (h := fun w12 S => ?_)
    replace S : Sep w (boxZ qq0_8 :: boxN qq1_8 memoryError :: boxW qv3 4 1 ⟨#[]⟩ :: valsR (.slice (some ⟨q_6_1, 0, none⟩) k k) (List.replicate k V.zero) :: heapR h (HX [rowO 1 (by decide) (List.replicate k V.zero)]) :: []) w12 := by rw [Hb9_10.out] at S; exact S
    clear Hb9_10 Kb9_10
    clear q1 q2 q3
    refine named (boxZ qq0_8 :: boxN qq1_8 memoryError :: boxW qv3 4 1 ⟨#[]⟩ :: valsR (.slice (some ⟨q_6_1, 0, none⟩) k k) (List.replicate k V.zero) :: heapR h (HX [rowO 1 (by decide) (List.replicate k V.zero)]) :: [] : List Res) fun b10_12 hb10_12 => ?_
    have Hb10_12 := Lib.hid hb10_12
    have Kb10_12 : Hid (∀ W (Q : List Res), Sep w (Q ++ b10_12) W → True) := Lib.hid fun W Q T => by
      rw [hb10_12] at T
      trivial
    have Cb10_12_0 : Hid (∀ W (Q : List Res), Sep w (Q ++ b10_12) W → W.cell? ⟨qv3, 0, none⟩ = some (.int .i64 4) ∧ W.cell? ⟨qv3, 1, none⟩ = some (.int .i64 1) ∧ W.cell? ⟨qv3, 2, none⟩ = some (.string ⟨#[]⟩)) := Lib.hid fun W Q T => by
      rw [hb10_12] at T
      have i0 := T.box (b := qv3) (o := objW 4 1 ⟨#[]⟩) (Q.length + 2) (by rw [List.getElem?_append_right (by omega), Nat.add_sub_cancel_left]; rfl)
      exact ⟨cellAt i0 0 rfl, cellAt i0 1 rfl, cellAt i0 2 rfl⟩
    have K10_2 : Hid (∀ W (Q : List Res), Sep w (Q ++ b10_12) W → Calls Tryz.prog 16 #[.int .i64 9223372036854775807] W fun e W' => e = .returned (.agg #[.int .i64 2, .int .i64 9223372036854775807, .string ⟨#[]⟩]) ∧ Sep w (Q ++ b10_12) W') := Lib.hid fun W Q T => by
      exact (lnum_ok W 9223372036854775807).mono fun e W' ⟨e1, e2⟩ => ⟨e1, T.later e2⟩
    have K10_3 : Hid (∀ W (Q : List Res), Sep w (Q ++ b10_12) W → Calls Tryz.prog 23 #[.pointer (some ⟨h, 0, none⟩), .string ⟨#[42]⟩, .agg #[.int .i64 4, .int .i64 1, .string ⟨#[]⟩], .agg #[.int .i64 2, .int .i64 9223372036854775807, .string ⟨#[]⟩]] W fun e W' => e = .returned (.tuple #[zeroV, excN memoryError]) ∧ Sep w (Q ++ b10_12) W') := Lib.hid fun W Q T => by
      rw [Hb10_12.out] at T ⊢
      exact bin_mul_row_no T (Q.length + 4) (by rw [List.getElem?_append_right (by omega), Nat.add_sub_cancel_left]; rfl) (HG1.out.good (by simp)) (by decide) (vX 1 (by decide)) (vI 9223372036854775807 (by decide)) rfl rfl (by show 4096 < (9223372036854775807 : Int).toNat * (List.replicate k V.zero).length; rw [List.length_replicate, show (9223372036854775807 : Int).toNat = 9223372036854775807 from rfl]; have := HK.out; omega)
    replace S := Lib.hid S
    clear hb10_12
    go_upto_region 10 with fail
    go_cut [13, 14] (fun s13 s14 wx => ∃ qq0_10 qq1_10, s13 = .pointer (some ⟨qq0_10, 0, none⟩) ∧ s14 = .pointer (some ⟨qq1_10, 0, none⟩) ∧ Sep w ([boxZ qq0_10, boxN qq1_10 memoryError] ++ b10_12) wx)
    case first =>
      have S1 : Sep w ([] ++ b10_12) (w12) := by rw [Hb10_12.out]; exact S.out
      clear S
      refine regionP 7 4 (E := [emptyR, emptyR]) (base := b10_12) (Sep.putE (Sep.putE S1)) ?_
      clear S1
      refine quietP ?_
      simp only [Act.put, pa]; try dsimp only [List.set]
      refine quietP (hy := fun E Wx hSw => by ((refine and3 (Cb10_12_0.out _ _ hSw) fun u0 u1 u2 => ?_); go_simp; exact ⟨rfl, hSw⟩)) (h := ?_)
      simp only [Act.put, pa]; try dsimp only [List.set]
      refine quietP (hy := fun E Wx hSw => by (go_simp; exact symCall (K10_2.out _ _ hSw))) (h := ?_)
      simp only [Act.put, pa]; try dsimp only [List.set]
      refine quietP (hy := fun E Wx hSw => by (go_simp; exact symCall (K10_3.out _ _ hSw))) (h := ?_)
      simp only [Act.put, pa]; try dsimp only [List.set]
      iterate 3 (refine quietP ?_; simp only [Act.put, pa]; try dsimp only [List.set])
      refine endP ?_
      refine readyS [7, 8] ?_
      refine allocS 0 rfl (fun q => .pointer (some ⟨q, 0, none⟩)) (.cells #[.int .i64 0, .int .i64 0, .string ⟨#[]⟩] 29) (h1 := fun Wx => by go_simp) (h2 := fun qa101 => ?_) (hs := ?_)
      · simp only [Act.put, pa]; try dsimp only [List.set]
        try simp only [List.set_cons_zero, List.set_cons_succ]
        refine readyS [8] ?_
        refine allocS 1 rfl (fun q => .pointer (some ⟨q, 0, none⟩)) (.cells #[.string ⟨#[]⟩, .int .i64 0, .int .i64 0, .string ⟨#[]⟩, .bool false] 38) (h1 := fun Wx => by go_simp) (h2 := fun qe102 => ?_) (hs := nilS)
        simp only [Act.put, pa]; try dsimp only [List.set]
        try simp only [List.set_cons_zero, List.set_cons_succ]
        refine readyS [9] ?_
        refine detS undef [boxZ qa101, boxE qe102] (h1 := fun Wx hSw => by (have hz := hSw.box (b := qa101) (o := objZ) 0 rfl; refine useZ3 hz fun z0 z1 z2 y0 y1 y2 => ?_; go_simp; exact ⟨rfl, hSw.set3 0 rfl (.int .i64 0) (.int .i64 0) (.string ⟨#[]⟩)⟩)) (h2 := ?_) (hs := nilS)
        simp only [Act.put, pa]; try dsimp only [List.set]
        refine readyS [10] ?_
        refine detS undef [boxZ qa101, boxN qe102 memoryError] (h1 := fun Wx hSw => by (have hz := hSw.box (b := qe102) (o := objE) 1 rfl; refine useZ5 hz fun z0 z1 z2 z3 z4 y0 y1 y2 y3 y4 => ?_; go_simp; exact ⟨rfl, hSw.set5 1 rfl (.string memoryError) (.int .i64 0) (.int .i64 0) (.string ⟨#[]⟩) (.bool false)⟩)) (h2 := ?_) (hs := nilS)
        simp only [Act.put, pa]; try dsimp only [List.set]
        refine doneS (h := fun w14 S => ?_)
        go_wp2_with fail
        as_aux_lemma => (go_meet; exact ⟨_, _, rfl, rfl, S⟩)
      refine allocS 1 rfl (fun q => .pointer (some ⟨q, 0, none⟩)) (.cells #[.string ⟨#[]⟩, .int .i64 0, .int .i64 0, .string ⟨#[]⟩, .bool false] 38) (h1 := fun Wx => by go_simp) (h2 := fun qe105 => ?_) (hs := ?_)
      · simp only [Act.put, pa]; try dsimp only [List.set]
        try simp only [List.set_cons_zero, List.set_cons_succ]
        refine readyS [7] ?_
        refine allocS 0 rfl (fun q => .pointer (some ⟨q, 0, none⟩)) (.cells #[.int .i64 0, .int .i64 0, .string ⟨#[]⟩] 29) (h1 := fun Wx => by go_simp) (h2 := fun qa106 => ?_) (hs := nilS)
        simp only [Act.put, pa]; try dsimp only [List.set]
        try simp only [List.set_cons_zero, List.set_cons_succ]
        refine readyS [9] ?_
        refine detS undef [boxZ qa106, boxE qe105] (h1 := fun Wx hSw => by (have hz := hSw.box (b := qa106) (o := objZ) 0 rfl; refine useZ3 hz fun z0 z1 z2 y0 y1 y2 => ?_; go_simp; exact ⟨rfl, hSw.set3 0 rfl (.int .i64 0) (.int .i64 0) (.string ⟨#[]⟩)⟩)) (h2 := ?_) (hs := nilS)
        simp only [Act.put, pa]; try dsimp only [List.set]
        refine readyS [10] ?_
        refine detS undef [boxZ qa106, boxN qe105 memoryError] (h1 := fun Wx hSw => by (have hz := hSw.box (b := qe105) (o := objE) 1 rfl; refine useZ5 hz fun z0 z1 z2 z3 z4 y0 y1 y2 y3 y4 => ?_; go_simp; exact ⟨rfl, hSw.set5 1 rfl (.string memoryError) (.int .i64 0) (.int .i64 0) (.string ⟨#[]⟩) (.bool false)⟩)) (h2 := ?_) (hs := nilS)
        simp only [Act.put, pa]; try dsimp only [List.set]
        refine doneS (h := fun w14 S => ?_)
        go_wp2_with fail
        as_aux_lemma => (go_meet; exact ⟨_, _, rfl, rfl, S⟩)
      exact nilS
    case rest =>
      obtain ⟨qq0_10, qq1_10, rfl, rfl, S⟩ := hcut
      replace S : Sep w (boxZ qq0_10 :: boxN qq1_10 memoryError :: boxZ qq0_8 :: boxN qq1_8 memoryError :: boxW qv3 4 1 ⟨#[]⟩ :: valsR (.slice (some ⟨q_6_1, 0, none⟩) k k) (List.replicate k V.zero) :: heapR h (HX [rowO 1 (by decide) (List.replicate k V.zero)]) :: []) wc := by rw [Hb10_12.out] at S; exact S
      clear Hb10_12 Kb10_12 K10_2 K10_3 Cb10_12_0
      have HG2 : Hid (HXL [rowO 1 (by decide) (List.replicate k V.zero), rowO 1 (by decide) []]) := Lib.hid (HG1.out.snoc (by simp))
      have HG3 : Hid (HXL [rowO 1 (by decide) (List.replicate k V.zero), rowO 1 (by decide) [], rowO 1 (by decide) []]) := Lib.hid (HG2.out.snoc (by simp))
      replace S : Sep w (heapR h (HX [rowO 1 (by decide) (List.replicate k V.zero)]) :: boxZ qq0_10 :: boxN qq1_10 memoryError :: boxZ qq0_8 :: boxN qq1_8 memoryError :: boxW qv3 4 1 ⟨#[]⟩ :: valsR (.slice (some ⟨q_6_1, 0, none⟩) k k) (List.replicate k V.zero) :: []) (wc) := by
        refine (show Sep w ([boxZ qq0_10, boxN qq1_10 memoryError, boxZ qq0_8, boxN qq1_8 memoryError, boxW qv3 4 1 ⟨#[]⟩, valsR (.slice (some ⟨q_6_1, 0, none⟩) k k) (List.replicate k V.zero), heapR h (HX [rowO 1 (by decide) (List.replicate k V.zero)])] ++ []) _ from S).perm ?_
        exact List.Perm.append_right [] (perm_of (l := [boxZ qq0_10, boxN qq1_10 memoryError, boxZ qq0_8, boxN qq1_8 memoryError, boxW qv3 4 1 ⟨#[]⟩, valsR (.slice (some ⟨q_6_1, 0, none⟩) k k) (List.replicate k V.zero), heapR h (HX [rowO 1 (by decide) (List.replicate k V.zero)])]) [6, 0, 1, 2, 3, 4, 5] (by show (List.range' 0 7).Perm [6, 0, 1, 2, 3, 4, 5]; decide) (by rfl))
      refine named (boxZ qq0_10 :: boxN qq1_10 memoryError :: boxZ qq0_8 :: boxN qq1_8 memoryError :: boxW qv3 4 1 ⟨#[]⟩ :: valsR (.slice (some ⟨q_6_1, 0, none⟩) k k) (List.replicate k V.zero) :: [] : List Res) fun b11_14 hb11_14 => ?_
      have Hb11_14 := Lib.hid hb11_14
      have Kb11_14 : Hid (∀ W (Q : List Res), Sep w (Q ++ b11_14) W → True) := Lib.hid fun W Q T => by
        rw [hb11_14] at T
        trivial
      replace S := Lib.hid S
      clear hb11_14
      go_upto_region 11 with fail
      have S1 : Sep w ([heapR h (HX [rowO 1 (by decide) (List.replicate k V.zero)])] ++ b11_14) (wc) := by rw [Hb11_14.out]; exact S.out
      clear S
      refine regionL (E := [emptyR, emptyR, heapR h (HX [rowO 1 (by decide) (List.replicate k V.zero)])]) (base := b11_14) (Sep.putE (Sep.putE S1)) ?_
      clear S1
      iterate 2 (refine quietL ?_; simp only [Act.put, pa]; try dsimp only [List.set])
      refine detL (.agg #[.int .i64 4, .int .i64 2, .string ⟨#[]⟩]) [emptyR, emptyR, heapR h (HX [rowO 1 (by decide) (List.replicate k V.zero), rowO 1 (by decide) []])] (h1 := fun Wx hSw => by (go_simp; refine symCall ?_; have hh := hSw.make 2 rfl (HG1.out.good (by simp)) (by decide) (rowO 1 (by decide) []) (.slice none 0 0) (seesV_nil _) (by decide) rfl (by decide) (by decide); exact hh)) (h2 := ?_)
      simp only [Act.put, pa]; try dsimp only [List.set]
      refine detL (.agg #[.int .i64 2, .int .i64 9223372036854775807, .string ⟨#[]⟩]) [emptyR, emptyR, heapR h (HX [rowO 1 (by decide) (List.replicate k V.zero), rowO 1 (by decide) []])] (h1 := fun Wx hSw => by (go_simp; refine symCall ?_; exact (lnum_ok Wx 9223372036854775807).mono fun e W' ⟨e1, e2⟩ => ⟨e1, hSw.later e2⟩)) (h2 := ?_)
      simp only [Act.put, pa]; try dsimp only [List.set]
      refine detL (.tuple #[.agg #[.int .i64 4, .int .i64 3, .string ⟨#[]⟩], excZ]) [emptyR, emptyR, heapR h (HX [rowO 1 (by decide) (List.replicate k V.zero), rowO 1 (by decide) [], rowO 1 (by decide) []])] (h1 := fun Wx hSw => by (go_simp; refine symCall ?_; exact mul_empty hSw 2 rfl (HG2.out.good (by simp)) (by decide) (vX 2 (by decide)) (vI 9223372036854775807 (by decide)) rfl rfl rfl)) (h2 := ?_)
      simp only [Act.put, pa]; try dsimp only [List.set]
      iterate 3 (refine quietL ?_; simp only [Act.put, pa]; try dsimp only [List.set])
      refine allocL 0 rfl (fun q => .pointer (some ⟨q, 0, none⟩)) (.cells #[.int .i64 0, .int .i64 0, .string ⟨#[]⟩] 29) (h1 := fun Wx => by go_simp) (h2 := fun qa114 => ?_)
      simp only [Act.put, pa]; try dsimp only [List.set]
      try simp only [List.set_cons_zero, List.set_cons_succ]
      refine allocL 1 rfl (fun q => .pointer (some ⟨q, 0, none⟩)) (.cells #[.string ⟨#[]⟩, .int .i64 0, .int .i64 0, .string ⟨#[]⟩, .bool false] 38) (h1 := fun Wx => by go_simp) (h2 := fun qe115 => ?_)
      simp only [Act.put, pa]; try dsimp only [List.set]
      try simp only [List.set_cons_zero, List.set_cons_succ]
      refine detL undef [boxW qa114 4 3 ⟨#[]⟩, boxE qe115, heapR h (HX [rowO 1 (by decide) (List.replicate k V.zero), rowO 1 (by decide) [], rowO 1 (by decide) []])] (h1 := fun Wx hSw => by (have hz := hSw.box (b := qa114) (o := objZ) 0 rfl; refine useZ3 hz fun z0 z1 z2 y0 y1 y2 => ?_; go_simp; exact ⟨rfl, hSw.set3 0 rfl (.int .i64 4) (.int .i64 3) (.string ⟨#[]⟩)⟩)) (h2 := ?_)
      simp only [Act.put, pa]; try dsimp only [List.set]
      refine detL undef [boxW qa114 4 3 ⟨#[]⟩, boxE qe115, heapR h (HX [rowO 1 (by decide) (List.replicate k V.zero), rowO 1 (by decide) [], rowO 1 (by decide) []])] (h1 := fun Wx hSw => by (have hz := hSw.box (b := qe115) (o := objE) 1 rfl; refine useZ5 hz fun z0 z1 z2 z3 z4 y0 y1 y2 y3 y4 => ?_; go_simp; exact ⟨rfl, hSw.set5 1 rfl (.string ⟨#[]⟩) (.int .i64 0) (.int .i64 0) (.string ⟨#[]⟩) (.bool false)⟩)) (h2 := ?_)
      simp only [Act.put, pa]; try dsimp only [List.set]
      refine doneL (h := fun w16 S => ?_)
      replace S : Sep w (boxW qa114 4 3 ⟨#[]⟩ :: boxE qe115 :: heapR h (HX [rowO 1 (by decide) (List.replicate k V.zero), rowO 1 (by decide) [], rowO 1 (by decide) []]) :: boxZ qq0_10 :: boxN qq1_10 memoryError :: boxZ qq0_8 :: boxN qq1_8 memoryError :: boxW qv3 4 1 ⟨#[]⟩ :: valsR (.slice (some ⟨q_6_1, 0, none⟩) k k) (List.replicate k V.zero) :: []) w16 := by rw [Hb11_14.out] at S; exact S
      clear Hb11_14 Kb11_14
      have q1 : (t : Int) * (k : Int) = (M : Int) := by rw [← HM.out]; exact (Int.natCast_mul t k).symm
      have q2 : IntKind.i64.wrap (M : Int) = (M : Int) := IntWalk.i64_in _ (by have := HMB.out; omega)
      have q3 : (0 : Int) < t := by have := HTQ.out; omega
      have q3n : 0 < t := by omega
      have q3d : decide (0 < t) = true := decide_eq_true q3n
      refine named (boxW qa114 4 3 ⟨#[]⟩ :: boxE qe115 :: heapR h (HX [rowO 1 (by decide) (List.replicate k V.zero), rowO 1 (by decide) [], rowO 1 (by decide) []]) :: boxZ qq0_10 :: boxN qq1_10 memoryError :: boxZ qq0_8 :: boxN qq1_8 memoryError :: boxW qv3 4 1 ⟨#[]⟩ :: valsR (.slice (some ⟨q_6_1, 0, none⟩) k k) (List.replicate k V.zero) :: [] : List Res) fun b12_16 hb12_16 => ?_
      have Hb12_16 := Lib.hid hb12_16
      have Kb12_16 : Hid (∀ W (Q : List Res), Sep w (Q ++ b12_16) W → True) := Lib.hid fun W Q T => by
        rw [hb12_16] at T
        trivial
      have Cb12_16_0 : Hid (∀ W (Q : List Res), Sep w (Q ++ b12_16) W → W.cell? ⟨qa114, 0, none⟩ = some (.int .i64 4) ∧ W.cell? ⟨qa114, 1, none⟩ = some (.int .i64 3) ∧ W.cell? ⟨qa114, 2, none⟩ = some (.string ⟨#[]⟩)) := Lib.hid fun W Q T => by
        rw [hb12_16] at T
        have i0 := T.box (b := qa114) (o := objW 4 3 ⟨#[]⟩) (Q.length + 0) (by rw [List.getElem?_append_right (by omega), Nat.add_sub_cancel_left]; rfl)
        exact ⟨cellAt i0 0 rfl, cellAt i0 1 rfl, cellAt i0 2 rfl⟩
      have Cb12_16_1 : Hid (∀ W (Q : List Res), Sep w (Q ++ b12_16) W → W.cell? ⟨qe115, 0, none⟩ = some (.string ⟨#[]⟩) ∧ W.cell? ⟨qe115, 1, none⟩ = some (.int .i64 0) ∧ W.cell? ⟨qe115, 2, none⟩ = some (.int .i64 0) ∧ W.cell? ⟨qe115, 3, none⟩ = some (.string ⟨#[]⟩) ∧ W.cell? ⟨qe115, 4, none⟩ = some (.bool false)) := Lib.hid fun W Q T => by
        rw [hb12_16] at T
        have i0 := T.box (b := qe115) (o := objE) (Q.length + 1) (by rw [List.getElem?_append_right (by omega), Nat.add_sub_cancel_left]; rfl)
        exact ⟨cellAt i0 0 rfl, cellAt i0 1 rfl, cellAt i0 2 rfl, cellAt i0 3 rfl, cellAt i0 4 rfl⟩
      have Cb12_16_2 : Hid (∀ W (Q : List Res), Sep w (Q ++ b12_16) W → W.cell? ⟨qq1_10, 0, none⟩ = some (.string memoryError) ∧ W.cell? ⟨qq1_10, 1, none⟩ = some (.int .i64 0) ∧ W.cell? ⟨qq1_10, 2, none⟩ = some (.int .i64 0) ∧ W.cell? ⟨qq1_10, 3, none⟩ = some (.string ⟨#[]⟩) ∧ W.cell? ⟨qq1_10, 4, none⟩ = some (.bool false)) := Lib.hid fun W Q T => by
        rw [hb12_16] at T
        have i0 := T.box (b := qq1_10) (o := objN memoryError) (Q.length + 4) (by rw [List.getElem?_append_right (by omega), Nat.add_sub_cancel_left]; rfl)
        exact ⟨cellAt i0 0 rfl, cellAt i0 1 rfl, cellAt i0 2 rfl, cellAt i0 3 rfl, cellAt i0 4 rfl⟩
      have Cb12_16_3 : Hid (∀ W (Q : List Res), Sep w (Q ++ b12_16) W → W.cell? ⟨qq1_8, 0, none⟩ = some (.string memoryError) ∧ W.cell? ⟨qq1_8, 1, none⟩ = some (.int .i64 0) ∧ W.cell? ⟨qq1_8, 2, none⟩ = some (.int .i64 0) ∧ W.cell? ⟨qq1_8, 3, none⟩ = some (.string ⟨#[]⟩) ∧ W.cell? ⟨qq1_8, 4, none⟩ = some (.bool false)) := Lib.hid fun W Q T => by
        rw [hb12_16] at T
        have i0 := T.box (b := qq1_8) (o := objN memoryError) (Q.length + 6) (by rw [List.getElem?_append_right (by omega), Nat.add_sub_cancel_left]; rfl)
        exact ⟨cellAt i0 0 rfl, cellAt i0 1 rfl, cellAt i0 2 rfl, cellAt i0 3 rfl, cellAt i0 4 rfl⟩
      have K12_31 : Hid (∀ W (Q : List Res), Sep w (Q ++ b12_16) W → Calls Tryz.prog 21 #[excN memoryError, .string memoryError] W fun e W' => e = .returned (.bool true) ∧ Sep w (Q ++ b12_16) W') := Lib.hid fun W Q T => by
        exact (raised_memory W).mono fun e W' ⟨e1, e2⟩ => ⟨e1, T.later e2⟩
      have K12_36 : Hid (∀ W (Q : List Res), Sep w (Q ++ b12_16) W → Calls Tryz.prog 19 #[excZ] W fun e W' => e = .returned (.bool true) ∧ Sep w (Q ++ b12_16) W') := Lib.hid fun W Q T => by
        exact (none_z W).mono fun e W' ⟨e1, e2⟩ => ⟨e1, T.later e2⟩
      have K12_42 : Hid (∀ W (Q : List Res), Sep w (Q ++ b12_16) W → Calls Tryz.prog 24 #[.pointer (some ⟨h, 0, none⟩), .agg #[.int .i64 4, .int .i64 3, .string ⟨#[]⟩]] W fun e W' => e = .returned (.int .i64 0) ∧ Sep w (Q ++ b12_16) W') := Lib.hid fun W Q T => by
        rw [Hb12_16.out] at T ⊢
        exact len_at T (Q.length + 2) (by rw [List.getElem?_append_right (by omega), Nat.add_sub_cancel_left]; rfl) (vX 3 (by decide)) 0 rfl
      have K12_2 : Hid (∀ W (Q : List Res), Sep w (Q ++ b12_16) W → Calls Tryz.prog 19 #[excN memoryError] W fun e W' => e = .returned (.bool false) ∧ Sep w (Q ++ b12_16) W') := Lib.hid fun W Q T => by
        exact (none_memory W).mono fun e W' ⟨e1, e2⟩ => ⟨e1, T.later e2⟩
      have K12_9 : Hid (∀ W (Q : List Res), Sep w (Q ++ b12_16) W → Calls Tryz.prog 21 #[excN memoryError, .string memoryError] W fun e W' => e = .returned (.bool true) ∧ Sep w (Q ++ b12_16) W') := Lib.hid fun W Q T => by
        exact (raised_memory W).mono fun e W' ⟨e1, e2⟩ => ⟨e1, T.later e2⟩
      replace S := Lib.hid S
      clear hb12_16
      go_upto_region 12 with fail
      have S1 : Sep w ([] ++ b12_16) (w16) := by rw [Hb12_16.out]; exact S.out
      clear S
      refine regionL (E := []) (base := b12_16) S1 ?_
      clear S1
      refine quietL ?_
      simp only [Act.put, pa]; try dsimp only [List.set]
      refine quietL (hy := fun E Wx hSw => by ((refine and5 (Cb12_16_3.out _ _ hSw) fun u0 u1 u2 u3 u4 => ?_); go_simp; exact ⟨rfl, hSw⟩)) (h := ?_)
      simp only [Act.put, pa]; try dsimp only [List.set]
      refine quietL (hy := fun E Wx hSw => by (go_simp; exact symCall (K12_2.out _ _ hSw))) (h := ?_)
      simp only [Act.put, pa]; try dsimp only [List.set]
      iterate 5 (refine quietL ?_; simp only [Act.put, pa]; try dsimp only [List.set])
      refine quietL (hy := fun E Wx hSw => by ((refine and5 (Cb12_16_3.out _ _ hSw) fun u0 u1 u2 u3 u4 => ?_); go_simp; exact ⟨rfl, hSw⟩)) (h := ?_)
      simp only [Act.put, pa]; try dsimp only [List.set]
      refine quietL (hy := fun E Wx hSw => by (go_simp; exact symCall (K12_9.out _ _ hSw))) (h := ?_)
      simp only [Act.put, pa]; try dsimp only [List.set]
      iterate 6 (refine quietL ?_; simp only [Act.put, pa]; try dsimp only [List.set])
      iterate 7 (refine skipL ?_; simp only [Act.put, pa]; try dsimp only [List.set])
      iterate 2 (refine quietL ?_; simp only [Act.put, pa]; try dsimp only [List.set])
      iterate 2 (refine skipL ?_; simp only [Act.put, pa]; try dsimp only [List.set])
      iterate 3 (refine quietL ?_; simp only [Act.put, pa]; try dsimp only [List.set])
      refine quietL (hy := fun E Wx hSw => by ((refine and5 (Cb12_16_2.out _ _ hSw) fun u0 u1 u2 u3 u4 => ?_); go_simp; exact ⟨rfl, hSw⟩)) (h := ?_)
      simp only [Act.put, pa]; try dsimp only [List.set]
      refine quietL (hy := fun E Wx hSw => by (go_simp; exact symCall (K12_31.out _ _ hSw))) (h := ?_)
      simp only [Act.put, pa]; try dsimp only [List.set]
      iterate 3 (refine quietL ?_; simp only [Act.put, pa]; try dsimp only [List.set])
      refine quietL (hy := fun E Wx hSw => by ((refine and5 (Cb12_16_1.out _ _ hSw) fun u0 u1 u2 u3 u4 => ?_); go_simp; exact ⟨rfl, hSw⟩)) (h := ?_)
      simp only [Act.put, pa]; try dsimp only [List.set]
      refine quietL (hy := fun E Wx hSw => by (go_simp; exact symCall (K12_36.out _ _ hSw))) (h := ?_)
      simp only [Act.put, pa]; try dsimp only [List.set]
      iterate 4 (refine quietL ?_; simp only [Act.put, pa]; try dsimp only [List.set])
      refine quietL (hy := fun E Wx hSw => by ((refine and3 (Cb12_16_0.out _ _ hSw) fun u0 u1 u2 => ?_); go_simp; exact ⟨rfl, hSw⟩)) (h := ?_)
      simp only [Act.put, pa]; try dsimp only [List.set]
      refine quietL (hy := fun E Wx hSw => by (go_simp; exact symCall (K12_42.out _ _ hSw))) (h := ?_)
      simp only [Act.put, pa]; try dsimp only [List.set]
      iterate 2 (refine quietL ?_; simp only [Act.put, pa]; try dsimp only [List.set])
      refine doneL (h := fun w18 S => ?_)
      replace S : Sep w (boxW qa114 4 3 ⟨#[]⟩ :: boxE qe115 :: heapR h (HX [rowO 1 (by decide) (List.replicate k V.zero), rowO 1 (by decide) [], rowO 1 (by decide) []]) :: boxZ qq0_10 :: boxN qq1_10 memoryError :: boxZ qq0_8 :: boxN qq1_8 memoryError :: boxW qv3 4 1 ⟨#[]⟩ :: valsR (.slice (some ⟨q_6_1, 0, none⟩) k k) (List.replicate k V.zero) :: []) w18 := by rw [Hb12_16.out] at S; exact S
      clear Hb12_16 Kb12_16 K12_31 K12_36 K12_42 K12_2 K12_9 Cb12_16_0 Cb12_16_1 Cb12_16_2 Cb12_16_3
      refine named (boxW qa114 4 3 ⟨#[]⟩ :: boxE qe115 :: heapR h (HX [rowO 1 (by decide) (List.replicate k V.zero), rowO 1 (by decide) [], rowO 1 (by decide) []]) :: boxZ qq0_10 :: boxN qq1_10 memoryError :: boxZ qq0_8 :: boxN qq1_8 memoryError :: boxW qv3 4 1 ⟨#[]⟩ :: valsR (.slice (some ⟨q_6_1, 0, none⟩) k k) (List.replicate k V.zero) :: [] : List Res) fun b14_18 hb14_18 => ?_
      have Hb14_18 := Lib.hid hb14_18
      have Kb14_18 : Hid (∀ W (Q : List Res), Sep w (Q ++ b14_18) W → True) := Lib.hid fun W Q T => by
        rw [hb14_18] at T
        trivial
      replace S := Lib.hid S
      clear hb14_18
      go_upto_region 14 with fail
      have S1 : Sep w ([] ++ b14_18) (w18) := by rw [Hb14_18.out]; exact S.out
      clear S
      refine regionL (E := []) (base := b14_18) S1 ?_
      clear S1
      iterate 2 (refine quietL ?_; simp only [Act.put, pa]; try dsimp only [List.set])
      iterate 2 (refine skipL ?_; simp only [Act.put, pa]; try dsimp only [List.set])
      refine quietL ?_
      simp only [Act.put, pa]; try dsimp only [List.set]
      refine doneL (h := fun w20 S => ?_)
      replace S : Sep w (boxW qa114 4 3 ⟨#[]⟩ :: boxE qe115 :: heapR h (HX [rowO 1 (by decide) (List.replicate k V.zero), rowO 1 (by decide) [], rowO 1 (by decide) []]) :: boxZ qq0_10 :: boxN qq1_10 memoryError :: boxZ qq0_8 :: boxN qq1_8 memoryError :: boxW qv3 4 1 ⟨#[]⟩ :: valsR (.slice (some ⟨q_6_1, 0, none⟩) k k) (List.replicate k V.zero) :: []) w20 := by rw [Hb14_18.out] at S; exact S
      clear Hb14_18 Kb14_18
      clear q3n q3d
      as_aux_lemma =>
        clear q3
        clear q1 q2
        replace S : Sep w ([boxW qa114 4 3 ⟨#[]⟩, boxE qe115, boxZ qq0_10, boxN qq1_10 memoryError, boxZ qq0_8, boxN qq1_8 memoryError, boxW qv3 4 1 ⟨#[]⟩, valsR (.slice (some ⟨q_6_1, 0, none⟩) k k) (List.replicate k V.zero), heapR h (HX [rowO 1 (by decide) (List.replicate k V.zero), rowO 1 (by decide) [], rowO 1 (by decide) []])] ++ []) (w20) := by
          refine (show Sep w ([boxW qa114 4 3 ⟨#[]⟩, boxE qe115, heapR h (HX [rowO 1 (by decide) (List.replicate k V.zero), rowO 1 (by decide) [], rowO 1 (by decide) []]), boxZ qq0_10, boxN qq1_10 memoryError, boxZ qq0_8, boxN qq1_8 memoryError, boxW qv3 4 1 ⟨#[]⟩, valsR (.slice (some ⟨q_6_1, 0, none⟩) k k) (List.replicate k V.zero)] ++ []) _ from S).perm ?_
          exact List.Perm.append_right [] (perm_of (l := [boxW qa114 4 3 ⟨#[]⟩, boxE qe115, heapR h (HX [rowO 1 (by decide) (List.replicate k V.zero), rowO 1 (by decide) [], rowO 1 (by decide) []]), boxZ qq0_10, boxN qq1_10 memoryError, boxZ qq0_8, boxN qq1_8 memoryError, boxW qv3 4 1 ⟨#[]⟩, valsR (.slice (some ⟨q_6_1, 0, none⟩) k k) (List.replicate k V.zero)]) [0, 1, 3, 4, 5, 6, 7, 8, 2] (by show (List.range' 0 9).Perm [0, 1, 3, 4, 5, 6, 7, 8, 2]; decide) (by rfl))
        iterate 8 replace S := S.tail
        replace S : Sep w (heapR h (HX [rowO 1 (by decide) (List.replicate k V.zero), rowO 1 (by decide) [], rowO 1 (by decide) []]) :: []) (w20) := S
        as_aux_lemma =>
          obtain ⟨L2, hL2⟩ : ∃ l, l = L + 2 := ⟨_, rfl⟩
          have HL2 : Hid (L2 = L + 2) := Lib.hid hL2
          obtain ⟨q1, q2, q3⟩ := H19.out
          rw [← hL2] at q3
          clear hL2
          refine named (heapR h (HX [rowO 1 (by decide) (List.replicate k V.zero), rowO 1 (by decide) [], rowO 1 (by decide) []]) :: [] : List Res) fun b19_20 hb19_20 => ?_
          have Hb19_20 := Lib.hid hb19_20
          have Kb19_20 : Hid (∀ W (Q : List Res), Sep w (Q ++ b19_20) W → True) := Lib.hid fun W Q T => by
            rw [hb19_20] at T
            trivial
          replace S := Lib.hid S
          clear hb19_20
          go_upto_region 19 with fail
          have S1 : Sep w ([] ++ b19_20) (w20) := by rw [Hb19_20.out]; exact S.out
          clear S
          refine regionL (E := []) (base := b19_20) S1 ?_
          clear S1
          iterate 5 (refine quietL ?_; simp only [Act.put, pa]; try dsimp only [List.set])
          refine doneL (h := fun w22 S => ?_)
          replace S : Sep w (heapR h (HX [rowO 1 (by decide) (List.replicate k V.zero), rowO 1 (by decide) [], rowO 1 (by decide) []]) :: []) w22 := by rw [Hb19_20.out] at S; exact S
          clear Hb19_20 Kb19_20
          clear q1 q2 q3
          have q1 : IntKind.i64.wrap ((L2 : Int) - 2) = (L : Int) := by rw [HL2.out]; exact (IntWalk.i64_in _ (by have := HL.out; omega)).trans (by omega)
          refine named (heapR h (HX [rowO 1 (by decide) (List.replicate k V.zero), rowO 1 (by decide) [], rowO 1 (by decide) []]) :: [] : List Res) fun b20_22 hb20_22 => ?_
          have Hb20_22 := Lib.hid hb20_22
          have Kb20_22 : Hid (∀ W (Q : List Res), Sep w (Q ++ b20_22) W → True) := Lib.hid fun W Q T => by
            rw [hb20_22] at T
            trivial
          replace S := Lib.hid S
          clear hb20_22
          go_upto_region 20 with fail
          have S1 : Sep w ([] ++ b20_22) (w22) := by rw [Hb20_22.out]; exact S.out
          clear S
          refine regionL (E := [emptyR]) (base := b20_22) (Sep.putE S1) ?_
          clear S1
          iterate 2 (refine quietL ?_; simp only [Act.put, pa]; try dsimp only [List.set])
          refine stepL (fun v E1 => ∃ (q_24_1 : Nat), v = .slice (some ⟨q_24_1, 0, none⟩) L L ∧ E1 = [bytesR (.slice (some ⟨q_24_1, 0, none⟩) L L) (List.replicate L 0)]) (h1 := fun Wx hSw => by (obtain ⟨g, w2, hr, S2⟩ := Sep.makeB hSw L (by have := HL.out; omega); exact symMake _ _ _ rfl _ _ rfl rfl hr ⟨_, ⟨_, rfl, rfl⟩, S2.into 0 rfl⟩)) (h2 := fun v E1 hvE => ?_)
          obtain ⟨q_24_1, rfl, rfl⟩ := hvE
          simp only [Act.put, pa]; try dsimp only [List.set]
          refine quietL ?_
          simp only [Act.put, pa]; try dsimp only [List.set]
          refine doneL (h := fun w24 S => ?_)
          replace S : Sep w (bytesR (.slice (some ⟨q_24_1, 0, none⟩) L L) (List.replicate L 0) :: heapR h (HX [rowO 1 (by decide) (List.replicate k V.zero), rowO 1 (by decide) [], rowO 1 (by decide) []]) :: []) w24 := by rw [Hb20_22.out] at S; exact S
          clear Hb20_22 Kb20_22
          clear q1
          replace S := Lib.hid S
          go_wp2
          go_loopw [23] (fun s23 wr => ∃ i : Nat, i ≤ L ∧ s23 = .int .i64 i ∧ Sep w ([bytesR (.slice (some ⟨q_24_1, 0, none⟩) L L) (List.replicate i 97 ++ List.replicate (L - i) 0), heapR h (HX [rowO 1 (by decide) (List.replicate k V.zero), rowO 1 (by decide) [], rowO 1 (by decide) []])] ++ []) wr) (fun s23 _ => L - (intOf s23).toNat)
          case atStart => exact ⟨0, Nat.zero_le _, rfl, S.out⟩
          case round =>
            obtain ⟨i, hi, rfl, S⟩ := hrel
            have HI := Lib.hid hi
            by_cases hlt : i < L
            ·
              have HLT := Lib.hid hlt
              have hlti : (i : Int) < L := by omega
              clear hi
              replace S : Sep w (bytesR (.slice (some ⟨q_24_1, 0, none⟩) L L) (List.replicate i 97 ++ List.replicate (L - i) 0) :: heapR h (HX [rowO 1 (by decide) (List.replicate k V.zero), rowO 1 (by decide) [], rowO 1 (by decide) []]) :: []) wr := S
              replace S : Sep w (bytesR (.slice (some ⟨q_24_1, 0, none⟩) L L) (List.replicate i 97 ++ List.replicate (L - i) 0) :: heapR h (HX [rowO 1 (by decide) (List.replicate k V.zero), rowO 1 (by decide) [], rowO 1 (by decide) []]) :: []) (wr) := by
                refine (show Sep w ([bytesR (.slice (some ⟨q_24_1, 0, none⟩) L L) (List.replicate i 97 ++ List.replicate (L - i) 0), heapR h (HX [rowO 1 (by decide) (List.replicate k V.zero), rowO 1 (by decide) [], rowO 1 (by decide) []])] ++ []) _ from S).perm ?_
                exact List.Perm.append_right [] (perm_of (l := [bytesR (.slice (some ⟨q_24_1, 0, none⟩) L L) (List.replicate i 97 ++ List.replicate (L - i) 0), heapR h (HX [rowO 1 (by decide) (List.replicate k V.zero), rowO 1 (by decide) [], rowO 1 (by decide) []])]) [0, 1] (by show (List.range' 0 2).Perm [0, 1]; decide) (by rfl))
              refine named (heapR h (HX [rowO 1 (by decide) (List.replicate k V.zero), rowO 1 (by decide) [], rowO 1 (by decide) []]) :: [] : List Res) fun b24_300 hb24_300 => ?_
              have Hb24_300 := Lib.hid hb24_300
              have Kb24_300 : Hid (∀ W (Q : List Res), Sep w (Q ++ b24_300) W → True) := Lib.hid fun W Q T => by
                rw [hb24_300] at T
                trivial
              replace S := Lib.hid S
              clear hb24_300
              go_upto_region 24 with fail
              have S1 : Sep w ([bytesR (.slice (some ⟨q_24_1, 0, none⟩) L L) (List.replicate i 97 ++ List.replicate (L - i) 0)] ++ b24_300) (wr) := by rw [Hb24_300.out]; exact S.out
              clear S
              refine regionL (E := [bytesR (.slice (some ⟨q_24_1, 0, none⟩) L L) (List.replicate i 97 ++ List.replicate (L - i) 0)]) (base := b24_300) S1 ?_
              clear S1
              iterate 3 (refine quietL ?_; simp only [Act.put, pa]; try dsimp only [List.set])
              refine detL (undef) [bytesR (.slice (some ⟨q_24_1, 0, none⟩) L L) (List.replicate (i + 1) 97 ++ List.replicate (L - (i + 1)) 0)] (h1 := fun Wx hSw => by (obtain ⟨S2, hc, hf⟩ := bytes_put hSw 0 rfl HLT.out; go_simp; exact ⟨rfl, S2⟩)) (h2 := ?_)
              simp only [Act.put, pa]; try dsimp only [List.set]
              refine doneL (h := fun w302 S => ?_)
              replace S : Sep w (bytesR (.slice (some ⟨q_24_1, 0, none⟩) L L) (List.replicate (i + 1) 97 ++ List.replicate (L - (i + 1)) 0) :: heapR h (HX [rowO 1 (by decide) (List.replicate k V.zero), rowO 1 (by decide) [], rowO 1 (by decide) []]) :: []) w302 := by rw [Hb24_300.out] at S; exact S
              clear Hb24_300 Kb24_300
              replace S := Lib.hid S
              have hii : IntKind.i64.wrap ((i : Int) + 1) = (i : Int) + 1 := IntWalk.i64_in _ (by have := HL.out; have := HLT.out; omega)
              go_wp2
              exact ⟨⟨i + 1, HLT.out, by go_num, S.out⟩, by have := HLT.out; simp [intOf]; omega⟩
            ·
              obtain rfl : i = L := by omega
              have hlti : ¬ ((i : Int) < i) := by omega
              obtain ⟨TX, hTX⟩ : ∃ t : ByteArray, t = ⟨(List.replicate i (97 : UInt8)).toArray⟩ := ⟨_, rfl⟩
              have hb0 : List.replicate i (97 : UInt8) ++ List.replicate (i - i) 0 = List.replicate i 97 := by simp
              rw [hb0] at S
              have HTX := Lib.hid hTX
              have HTS : Hid (TX.size = i) := Lib.hid (by rw [hTX]; simp [ByteArray.size])
              have HTM : Hid (TX.size ≤ maxLen) := Lib.hid (by rw [HTS.out]; unfold maxLen; have := HL.out; omega)
              have HNE : Hid (List.replicate i (97 : UInt8) ≠ []) := Lib.hid (by have := HL.out; intro e; have e2 := congrArg List.length e; simp at e2; omega)
              have HTL : Hid (((HX [rowO 1 (by decide) (List.replicate k V.zero), rowO 1 (by decide) [], rowO 1 (by decide) []]).plainL (vS TX HTM.out)).length = L2) := Lib.hid (by have hm := HTM.out; rw [HL2.out]; subst hTX; exact told _ i hm)
              obtain ⟨RT, hRT⟩ : ∃ t : ByteArray, t = ⟨((HX [rowO 1 (by decide) (List.replicate k V.zero), rowO 1 (by decide) [], rowO 1 (by decide) []]).plainL (vS TX HTM.out)).toArray⟩ := ⟨_, rfl⟩
              have HRT := Lib.hid hRT
              have hrs : RT.size = L2 := by rw [hRT]; simpa [ByteArray.size] using HTL.out
              have hrsi : (RT.size : Int) = L2 := by rw [hrs]
              have HRS := Lib.hid (And.intro hrs hrsi)
              clear hTX hb0 hRT hi HI hrs hrsi
              replace S : Sep w (bytesR (.slice (some ⟨q_24_1, 0, none⟩) i i) (List.replicate i 97) :: heapR h (HX [rowO 1 (by decide) (List.replicate k V.zero), rowO 1 (by decide) [], rowO 1 (by decide) []]) :: []) wr := S
              by_cases hlen : L2 ≤ 65536
              ·
                have HLEN := Lib.hid hlen
                have hli : (L2 : Int) ≤ 65536 := by omega
                clear hlen
                replace S : Sep w (bytesR (.slice (some ⟨q_24_1, 0, none⟩) i i) (List.replicate i 97) :: heapR h (HX [rowO 1 (by decide) (List.replicate k V.zero), rowO 1 (by decide) [], rowO 1 (by decide) []]) :: []) (wr) := by
                  refine (show Sep w ([bytesR (.slice (some ⟨q_24_1, 0, none⟩) i i) (List.replicate i 97), heapR h (HX [rowO 1 (by decide) (List.replicate k V.zero), rowO 1 (by decide) [], rowO 1 (by decide) []])] ++ []) _ from S).perm ?_
                  exact List.Perm.append_right [] (perm_of (l := [bytesR (.slice (some ⟨q_24_1, 0, none⟩) i i) (List.replicate i 97), heapR h (HX [rowO 1 (by decide) (List.replicate k V.zero), rowO 1 (by decide) [], rowO 1 (by decide) []])]) [0, 1] (by show (List.range' 0 2).Perm [0, 1]; decide) (by rfl))
                refine named (heapR h (HX [rowO 1 (by decide) (List.replicate k V.zero), rowO 1 (by decide) [], rowO 1 (by decide) []]) :: [] : List Res) fun b25_400 hb25_400 => ?_
                have Hb25_400 := Lib.hid hb25_400
                have Kb25_400 : Hid (∀ W (Q : List Res), Sep w (Q ++ b25_400) W → True) := Lib.hid fun W Q T => by
                  rw [hb25_400] at T
                  trivial
                have K25_3 : Hid (∀ W (Q : List Res), Sep w (Q ++ b25_400) W → Calls Tryz.prog 17 #[.string TX] W fun e W' => e = .returned (.agg #[.int .i64 3, .int .i64 0, .string TX]) ∧ Sep w (Q ++ b25_400) W') := Lib.hid fun W Q T => by
                  exact (lstr_ok W TX).mono fun e W' ⟨e1, e2⟩ => ⟨e1, T.later e2⟩
                have K25_4 : Hid (∀ W (Q : List Res), Sep w (Q ++ b25_400) W → Calls Tryz.prog 25 #[.pointer (some ⟨h, 0, none⟩), .agg #[.int .i64 3, .int .i64 0, .string TX]] W fun e W' => e = .returned (.tuple #[.string RT, excZ]) ∧ Sep w (Q ++ b25_400) W') := Lib.hid fun W Q T => by
                  rw [Hb25_400.out] at T ⊢
                  exact (by have hh := repr_one (HG3.out.good (by simp)) (by decide) T (Q.length + 0) (by rw [List.getElem?_append_right (by omega), Nat.add_sub_cancel_left]; rfl) (vS TX HTM.out) (.inr (.inr (.inr rfl))) (by show TX.size ≤ 100000; rw [HTS.out]; have := HL.out; omega) _ rfl; rw [HeapM.repr_fits _ _ (by show ¬ (3 : Int) = 4; decide) (by rw [HTL.out]; exact HLEN.out), ← HRT.out] at hh; exact hh)
                replace S := Lib.hid S
                clear hb25_400
                go_upto_region 25 with fail
                have S1 : Sep w ([bytesR (.slice (some ⟨q_24_1, 0, none⟩) i i) (List.replicate i 97)] ++ b25_400) (wr) := by rw [Hb25_400.out]; exact S.out
                clear S
                refine regionL (E := [emptyR, bytesR (.slice (some ⟨q_24_1, 0, none⟩) i i) (List.replicate i 97)]) (base := b25_400) (Sep.putE S1) ?_
                clear S1
                iterate 2 (refine quietL ?_; simp only [Act.put, pa]; try dsimp only [List.set])
                refine detL (.string TX) [emptyR, bytesR (.slice (some ⟨q_24_1, 0, none⟩) i i) (List.replicate i 97)] (h1 := fun Wx hSw => by (have hb := bytes_back hSw 1 rfl HNE.out; rw [← HTX.out] at hb; go_simp; exact ⟨rfl, hSw⟩)) (h2 := ?_)
                simp only [Act.put, pa]; try dsimp only [List.set]
                refine quietL (hy := fun E Wx hSw => by (go_simp; exact symCall (K25_3.out _ _ hSw))) (h := ?_)
                simp only [Act.put, pa]; try dsimp only [List.set]
                refine quietL (hy := fun E Wx hSw => by (go_simp; exact symCall (K25_4.out _ _ hSw))) (h := ?_)
                simp only [Act.put, pa]; try dsimp only [List.set]
                iterate 3 (refine quietL ?_; simp only [Act.put, pa]; try dsimp only [List.set])
                refine allocL 0 rfl (fun q => .pointer (some ⟨q, 0, none⟩)) (.cells #[.string ⟨#[]⟩, .int .i64 0, .int .i64 0, .string ⟨#[]⟩, .bool false] 38) (h1 := fun Wx => by go_simp) (h2 := fun qe252 => ?_)
                simp only [Act.put, pa]; try dsimp only [List.set]
                try simp only [List.set_cons_zero, List.set_cons_succ]
                refine quietL ?_
                simp only [Act.put, pa]; try dsimp only [List.set]
                refine detL undef [boxE qe252, bytesR (.slice (some ⟨q_24_1, 0, none⟩) i i) (List.replicate i 97)] (h1 := fun Wx hSw => by (have hz := hSw.box (b := qe252) (o := objE) 0 rfl; refine useZ5 hz fun z0 z1 z2 z3 z4 y0 y1 y2 y3 y4 => ?_; go_simp; exact ⟨rfl, hSw.set5 0 rfl (.string ⟨#[]⟩) (.int .i64 0) (.int .i64 0) (.string ⟨#[]⟩) (.bool false)⟩)) (h2 := ?_)
                simp only [Act.put, pa]; try dsimp only [List.set]
                refine doneL (h := fun w402 S => ?_)
                replace S : Sep w (boxE qe252 :: bytesR (.slice (some ⟨q_24_1, 0, none⟩) i i) (List.replicate i 97) :: heapR h (HX [rowO 1 (by decide) (List.replicate k V.zero), rowO 1 (by decide) [], rowO 1 (by decide) []]) :: []) w402 := by rw [Hb25_400.out] at S; exact S
                clear Hb25_400 Kb25_400 K25_3 K25_4
                obtain ⟨hrs, hrsi⟩ := HRS.out
                refine named (boxE qe252 :: bytesR (.slice (some ⟨q_24_1, 0, none⟩) i i) (List.replicate i 97) :: heapR h (HX [rowO 1 (by decide) (List.replicate k V.zero), rowO 1 (by decide) [], rowO 1 (by decide) []]) :: [] : List Res) fun b26_402 hb26_402 => ?_
                have Hb26_402 := Lib.hid hb26_402
                have Kb26_402 : Hid (∀ W (Q : List Res), Sep w (Q ++ b26_402) W → True) := Lib.hid fun W Q T => by
                  rw [hb26_402] at T
                  trivial
                have Cb26_402_0 : Hid (∀ W (Q : List Res), Sep w (Q ++ b26_402) W → W.cell? ⟨qe252, 0, none⟩ = some (.string ⟨#[]⟩) ∧ W.cell? ⟨qe252, 1, none⟩ = some (.int .i64 0) ∧ W.cell? ⟨qe252, 2, none⟩ = some (.int .i64 0) ∧ W.cell? ⟨qe252, 3, none⟩ = some (.string ⟨#[]⟩) ∧ W.cell? ⟨qe252, 4, none⟩ = some (.bool false)) := Lib.hid fun W Q T => by
                  rw [hb26_402] at T
                  have i0 := T.box (b := qe252) (o := objE) (Q.length + 0) (by rw [List.getElem?_append_right (by omega), Nat.add_sub_cancel_left]; rfl)
                  exact ⟨cellAt i0 0 rfl, cellAt i0 1 rfl, cellAt i0 2 rfl, cellAt i0 3 rfl, cellAt i0 4 rfl⟩
                have K26_1 : Hid (∀ W (Q : List Res), Sep w (Q ++ b26_402) W → Calls Tryz.prog 19 #[excZ] W fun e W' => e = .returned (.bool true) ∧ Sep w (Q ++ b26_402) W') := Lib.hid fun W Q T => by
                  exact (none_z W).mono fun e W' ⟨e1, e2⟩ => ⟨e1, T.later e2⟩
                have K26_7 : Hid (∀ W (Q : List Res), Sep w (Q ++ b26_402) W → Calls Tryz.prog 19 #[excZ] W fun e W' => e = .returned (.bool true) ∧ Sep w (Q ++ b26_402) W') := Lib.hid fun W Q T => by
                  exact (none_z W).mono fun e W' ⟨e1, e2⟩ => ⟨e1, T.later e2⟩
                replace S := Lib.hid S
                clear hb26_402
                go_upto_region 26 with fail
                have S1 : Sep w ([] ++ b26_402) (w402) := by rw [Hb26_402.out]; exact S.out
                clear S
                refine regionL (E := []) (base := b26_402) S1 ?_
                clear S1
                refine quietL (hy := fun E Wx hSw => by ((refine and5 (Cb26_402_0.out _ _ hSw) fun u0 u1 u2 u3 u4 => ?_); go_simp; exact ⟨rfl, hSw⟩)) (h := ?_)
                simp only [Act.put, pa]; try dsimp only [List.set]
                refine quietL (hy := fun E Wx hSw => by (go_simp; exact symCall (K26_1.out _ _ hSw))) (h := ?_)
                simp only [Act.put, pa]; try dsimp only [List.set]
                iterate 4 (refine quietL ?_; simp only [Act.put, pa]; try dsimp only [List.set])
                refine quietL (hy := fun E Wx hSw => by ((refine and5 (Cb26_402_0.out _ _ hSw) fun u0 u1 u2 u3 u4 => ?_); go_simp; exact ⟨rfl, hSw⟩)) (h := ?_)
                simp only [Act.put, pa]; try dsimp only [List.set]
                refine quietL (hy := fun E Wx hSw => by (go_simp; exact symCall (K26_7.out _ _ hSw))) (h := ?_)
                simp only [Act.put, pa]; try dsimp only [List.set]
                iterate 7 (refine quietL ?_; simp only [Act.put, pa]; try dsimp only [List.set])
                iterate 6 (refine skipL ?_; simp only [Act.put, pa]; try dsimp only [List.set])
                iterate 3 (refine quietL ?_; simp only [Act.put, pa]; try dsimp only [List.set])
                refine doneL (h := fun w404 S => ?_)
                replace S : Sep w (boxE qe252 :: bytesR (.slice (some ⟨q_24_1, 0, none⟩) i i) (List.replicate i 97) :: heapR h (HX [rowO 1 (by decide) (List.replicate k V.zero), rowO 1 (by decide) [], rowO 1 (by decide) []]) :: []) w404 := by rw [Hb26_402.out] at S; exact S
                clear Hb26_402 Kb26_402 K26_1 K26_7 Cb26_402_0
                replace S := Lib.hid S.below
                go_wp2
                go_ret
                exact ⟨rfl, S.out⟩
              ·
                have HLEN := Lib.hid hlen
                have hli : ¬ (L2 : Int) ≤ 65536 := by omega
                clear hlen
                replace S : Sep w (bytesR (.slice (some ⟨q_24_1, 0, none⟩) i i) (List.replicate i 97) :: heapR h (HX [rowO 1 (by decide) (List.replicate k V.zero), rowO 1 (by decide) [], rowO 1 (by decide) []]) :: []) (wr) := by
                  refine (show Sep w ([bytesR (.slice (some ⟨q_24_1, 0, none⟩) i i) (List.replicate i 97), heapR h (HX [rowO 1 (by decide) (List.replicate k V.zero), rowO 1 (by decide) [], rowO 1 (by decide) []])] ++ []) _ from S).perm ?_
                  exact List.Perm.append_right [] (perm_of (l := [bytesR (.slice (some ⟨q_24_1, 0, none⟩) i i) (List.replicate i 97), heapR h (HX [rowO 1 (by decide) (List.replicate k V.zero), rowO 1 (by decide) [], rowO 1 (by decide) []])]) [0, 1] (by show (List.range' 0 2).Perm [0, 1]; decide) (by rfl))
                refine named (heapR h (HX [rowO 1 (by decide) (List.replicate k V.zero), rowO 1 (by decide) [], rowO 1 (by decide) []]) :: [] : List Res) fun b25_400 hb25_400 => ?_
                have Hb25_400 := Lib.hid hb25_400
                have Kb25_400 : Hid (∀ W (Q : List Res), Sep w (Q ++ b25_400) W → True) := Lib.hid fun W Q T => by
                  rw [hb25_400] at T
                  trivial
                have K25_3 : Hid (∀ W (Q : List Res), Sep w (Q ++ b25_400) W → Calls Tryz.prog 17 #[.string TX] W fun e W' => e = .returned (.agg #[.int .i64 3, .int .i64 0, .string TX]) ∧ Sep w (Q ++ b25_400) W') := Lib.hid fun W Q T => by
                  exact (lstr_ok W TX).mono fun e W' ⟨e1, e2⟩ => ⟨e1, T.later e2⟩
                have K25_4 : Hid (∀ W (Q : List Res), Sep w (Q ++ b25_400) W → Calls Tryz.prog 25 #[.pointer (some ⟨h, 0, none⟩), .agg #[.int .i64 3, .int .i64 0, .string TX]] W fun e W' => e = .returned (.tuple #[.string ⟨#[]⟩, excN memoryError]) ∧ Sep w (Q ++ b25_400) W') := Lib.hid fun W Q T => by
                  rw [Hb25_400.out] at T ⊢
                  exact (by have hh := repr_one (HG3.out.good (by simp)) (by decide) T (Q.length + 0) (by rw [List.getElem?_append_right (by omega), Nat.add_sub_cancel_left]; rfl) (vS TX HTM.out) (.inr (.inr (.inr rfl))) (by show TX.size ≤ 100000; rw [HTS.out]; have := HL.out; omega) _ rfl; rw [HeapM.repr_long _ _ (by show ¬ (3 : Int) = 4; decide) (by rw [HTL.out]; have := HLEN.out; omega)] at hh; exact hh)
                replace S := Lib.hid S
                clear hb25_400
                go_upto_region 25 with fail
                have S1 : Sep w ([bytesR (.slice (some ⟨q_24_1, 0, none⟩) i i) (List.replicate i 97)] ++ b25_400) (wr) := by rw [Hb25_400.out]; exact S.out
                clear S
                refine regionL (E := [emptyR, bytesR (.slice (some ⟨q_24_1, 0, none⟩) i i) (List.replicate i 97)]) (base := b25_400) (Sep.putE S1) ?_
                clear S1
                iterate 2 (refine quietL ?_; simp only [Act.put, pa]; try dsimp only [List.set])
                refine detL (.string TX) [emptyR, bytesR (.slice (some ⟨q_24_1, 0, none⟩) i i) (List.replicate i 97)] (h1 := fun Wx hSw => by (have hb := bytes_back hSw 1 rfl HNE.out; rw [← HTX.out] at hb; go_simp; exact ⟨rfl, hSw⟩)) (h2 := ?_)
                simp only [Act.put, pa]; try dsimp only [List.set]
                refine quietL (hy := fun E Wx hSw => by (go_simp; exact symCall (K25_3.out _ _ hSw))) (h := ?_)
                simp only [Act.put, pa]; try dsimp only [List.set]
                refine quietL (hy := fun E Wx hSw => by (go_simp; exact symCall (K25_4.out _ _ hSw))) (h := ?_)
                simp only [Act.put, pa]; try dsimp only [List.set]
                iterate 3 (refine quietL ?_; simp only [Act.put, pa]; try dsimp only [List.set])
                refine allocL 0 rfl (fun q => .pointer (some ⟨q, 0, none⟩)) (.cells #[.string ⟨#[]⟩, .int .i64 0, .int .i64 0, .string ⟨#[]⟩, .bool false] 38) (h1 := fun Wx => by go_simp) (h2 := fun qe252 => ?_)
                simp only [Act.put, pa]; try dsimp only [List.set]
                try simp only [List.set_cons_zero, List.set_cons_succ]
                refine quietL ?_
                simp only [Act.put, pa]; try dsimp only [List.set]
                refine detL undef [boxN qe252 memoryError, bytesR (.slice (some ⟨q_24_1, 0, none⟩) i i) (List.replicate i 97)] (h1 := fun Wx hSw => by (have hz := hSw.box (b := qe252) (o := objE) 0 rfl; refine useZ5 hz fun z0 z1 z2 z3 z4 y0 y1 y2 y3 y4 => ?_; go_simp; exact ⟨rfl, hSw.set5 0 rfl (.string memoryError) (.int .i64 0) (.int .i64 0) (.string ⟨#[]⟩) (.bool false)⟩)) (h2 := ?_)
                simp only [Act.put, pa]; try dsimp only [List.set]
                refine doneL (h := fun w402 S => ?_)
                replace S : Sep w (boxN qe252 memoryError :: bytesR (.slice (some ⟨q_24_1, 0, none⟩) i i) (List.replicate i 97) :: heapR h (HX [rowO 1 (by decide) (List.replicate k V.zero), rowO 1 (by decide) [], rowO 1 (by decide) []]) :: []) w402 := by rw [Hb25_400.out] at S; exact S
                clear Hb25_400 Kb25_400 K25_3 K25_4
                obtain ⟨hrs, hrsi⟩ := HRS.out
                refine named (boxN qe252 memoryError :: bytesR (.slice (some ⟨q_24_1, 0, none⟩) i i) (List.replicate i 97) :: heapR h (HX [rowO 1 (by decide) (List.replicate k V.zero), rowO 1 (by decide) [], rowO 1 (by decide) []]) :: [] : List Res) fun b26_402 hb26_402 => ?_
                have Hb26_402 := Lib.hid hb26_402
                have Kb26_402 : Hid (∀ W (Q : List Res), Sep w (Q ++ b26_402) W → True) := Lib.hid fun W Q T => by
                  rw [hb26_402] at T
                  trivial
                have Cb26_402_0 : Hid (∀ W (Q : List Res), Sep w (Q ++ b26_402) W → W.cell? ⟨qe252, 0, none⟩ = some (.string memoryError) ∧ W.cell? ⟨qe252, 1, none⟩ = some (.int .i64 0) ∧ W.cell? ⟨qe252, 2, none⟩ = some (.int .i64 0) ∧ W.cell? ⟨qe252, 3, none⟩ = some (.string ⟨#[]⟩) ∧ W.cell? ⟨qe252, 4, none⟩ = some (.bool false)) := Lib.hid fun W Q T => by
                  rw [hb26_402] at T
                  have i0 := T.box (b := qe252) (o := objN memoryError) (Q.length + 0) (by rw [List.getElem?_append_right (by omega), Nat.add_sub_cancel_left]; rfl)
                  exact ⟨cellAt i0 0 rfl, cellAt i0 1 rfl, cellAt i0 2 rfl, cellAt i0 3 rfl, cellAt i0 4 rfl⟩
                have K26_1 : Hid (∀ W (Q : List Res), Sep w (Q ++ b26_402) W → Calls Tryz.prog 19 #[excN memoryError] W fun e W' => e = .returned (.bool false) ∧ Sep w (Q ++ b26_402) W') := Lib.hid fun W Q T => by
                  exact (none_memory W).mono fun e W' ⟨e1, e2⟩ => ⟨e1, T.later e2⟩
                have K26_7 : Hid (∀ W (Q : List Res), Sep w (Q ++ b26_402) W → Calls Tryz.prog 19 #[excN memoryError] W fun e W' => e = .returned (.bool false) ∧ Sep w (Q ++ b26_402) W') := Lib.hid fun W Q T => by
                  exact (none_memory W).mono fun e W' ⟨e1, e2⟩ => ⟨e1, T.later e2⟩
                have K26_16 : Hid (∀ W (Q : List Res), Sep w (Q ++ b26_402) W → Calls Tryz.prog 21 #[excN memoryError, .string memoryError] W fun e W' => e = .returned (.bool true) ∧ Sep w (Q ++ b26_402) W') := Lib.hid fun W Q T => by
                  exact (raised_memory W).mono fun e W' ⟨e1, e2⟩ => ⟨e1, T.later e2⟩
                replace S := Lib.hid S
                clear hb26_402
                go_upto_region 26 with fail
                have S1 : Sep w ([] ++ b26_402) (w402) := by rw [Hb26_402.out]; exact S.out
                clear S
                refine regionL (E := []) (base := b26_402) S1 ?_
                clear S1
                refine quietL (hy := fun E Wx hSw => by ((refine and5 (Cb26_402_0.out _ _ hSw) fun u0 u1 u2 u3 u4 => ?_); go_simp; exact ⟨rfl, hSw⟩)) (h := ?_)
                simp only [Act.put, pa]; try dsimp only [List.set]
                refine quietL (hy := fun E Wx hSw => by (go_simp; exact symCall (K26_1.out _ _ hSw))) (h := ?_)
                simp only [Act.put, pa]; try dsimp only [List.set]
                iterate 4 (refine quietL ?_; simp only [Act.put, pa]; try dsimp only [List.set])
                refine quietL (hy := fun E Wx hSw => by ((refine and5 (Cb26_402_0.out _ _ hSw) fun u0 u1 u2 u3 u4 => ?_); go_simp; exact ⟨rfl, hSw⟩)) (h := ?_)
                simp only [Act.put, pa]; try dsimp only [List.set]
                refine quietL (hy := fun E Wx hSw => by (go_simp; exact symCall (K26_7.out _ _ hSw))) (h := ?_)
                simp only [Act.put, pa]; try dsimp only [List.set]
                refine quietL ?_
                simp only [Act.put, pa]; try dsimp only [List.set]
                iterate 4 (refine skipL ?_; simp only [Act.put, pa]; try dsimp only [List.set])
                iterate 2 (refine quietL ?_; simp only [Act.put, pa]; try dsimp only [List.set])
                refine quietL (hy := fun E Wx hSw => by ((refine and5 (Cb26_402_0.out _ _ hSw) fun u0 u1 u2 u3 u4 => ?_); go_simp; exact ⟨rfl, hSw⟩)) (h := ?_)
                simp only [Act.put, pa]; try dsimp only [List.set]
                refine quietL (hy := fun E Wx hSw => by (go_simp; exact symCall (K26_16.out _ _ hSw))) (h := ?_)
                simp only [Act.put, pa]; try dsimp only [List.set]
                iterate 7 (refine quietL ?_; simp only [Act.put, pa]; try dsimp only [List.set])
                refine doneL (h := fun w404 S => ?_)
                replace S : Sep w (boxN qe252 memoryError :: bytesR (.slice (some ⟨q_24_1, 0, none⟩) i i) (List.replicate i 97) :: heapR h (HX [rowO 1 (by decide) (List.replicate k V.zero), rowO 1 (by decide) [], rowO 1 (by decide) []]) :: []) w404 := by rw [Hb26_402.out] at S; exact S
                clear Hb26_402 Kb26_402 K26_1 K26_7 K26_16 Cb26_402_0
                replace S := Lib.hid S.below
                go_wp2
                go_ret
                exact ⟨rfl, S.out⟩
theorem walk (w : World) (n m : Int) (hn : (Lit.int .u8 n).wf = true) (hm : (Lit.int .u8 m).wf = true) :
    Calls Tryz.prog 5 #[.int .u8 n, .int .u8 m] w fun e W' => e = .returned (.bool true) ∧ Below w.heap.size w W' := by
  by_cases h : limM n m ≤ 4096
  · exact walk_fits w n m hn hm h
  · exact walk_no w n m hn hm h
set_option maxRecDepth 100000 in
theorem lifted (os : Os) (started : os.Started) (H : Type) (enc : TypeId × Value → H) :
    ReturnsInHanded {} Tryz.checked os 5 .any (Rows.operateLimitsSpec.pre6 enc Tryz.prog Tryz.f5 Rows.operateLimitsRow.domain false) (Rows.operateLimitsSpec.post enc Tryz.prog Tryz.f5 false true false false) := by
  refine law_lift (C := Tryz.checked) own started (by kernel_rfl) Tryz.func5
    (ChangeSpec.witness6 (enc := enc) (C := Tryz.checked) false ⟨#[], #[.int .u8 0, .int .u8 0], []⟩ 8 (by kernel_rfl) (by kernel_rfl) (by kernel_rfl) (by kernel_rfl))
    (by kernel_rfl) (by kernel_rfl) rfl (fun ds h => by
      match ds, h with
      | [d1, d2], _ => exact ⟨rfl, rfl, rfl⟩) rfl Tryz.underlying4 ?_
  intro W base args ds ps hval hA hlt hwt hsh
  rw [Tryz.params5] at hA hval
  obtain ⟨v0, vs0, d0, ds0, p0, q0, hargs, rfl, rfl, h0, r0⟩ := trodAll_cons hA
  obtain ⟨v1, vs1, d1, ds1, p1, q1, rfl, rfl, rfl, h1, r1⟩ := trodAll_cons r0
  obtain ⟨rfl, rfl, rfl⟩ := trodAll_nil r1
  obtain rfl : args = #[v0, v1] := by cases args; simp_all
  obtain ⟨a0, rfl, rfl, rfl, w0⟩ := open_int Tryz.underlying5 (hval 0 5 v0 rfl rfl) h0
  obtain ⟨a1, rfl, rfl, rfl, w1⟩ := open_int Tryz.underlying5 (hval 1 5 v1 rfl rfl) h1
  -- WALK
  exact walk W a0 a1 w0 w1
theorem proved : Rows.OperateLimitsSaid :=
  OpenClaim.holds_of_wide 5 Tryz.f5 rfl rfl rfl rfl rfl rfl rfl ⟨rfl, rfl, rfl, rfl, rfl⟩ rfl rfl rfl rfl rfl (by kernel_rfl) Tryz.func5 (by kernel_rfl)
    (of_decide_eq_true (by kernel_rfl)) (by unfold Func.isWrapper; first | (rw [if_pos (by decide +kernel)]; kernel_rfl) | (rw [if_neg (by decide +kernel)]; exact ⟨rfl, rfl⟩))
    (fun os started H enc _ => lifted os started H enc)
#print axioms proved
end Go.Proofs.YtellmfimmghidaaGreat.operateLimits
