/-
  OperateKinds: for any bool, any number and any operator, the law returns true: a bool is no int. No condition.
-/
import Derived.Test.YtellmfimmghidaaGreatShownP
import Derived.Test.YtellmfimmghidaaGreatFrame
import Derived.Test.YtellmfimmghidaaGreatLawK
import Derived.Test.YtellmfimmghidaaGreatLawO
namespace Go.Proofs.YtellmfimmghidaaGreat.operateKinds
set_option linter.unusedSimpArgs false
open Go.ChangeShapes Go.WideShapes Go.ChangeAt Go.RowKit
open Go.ChangeMaps (open_string)
set_option linter.unusedVariables false
def v5 : V := vI 5 (by decide)
def v6 : V := vI 6 (by decide)
def vL : V := ⟨4, 1, ⟨#[]⟩, by decide, by decide, by decide⟩
def o1 : ObjM := rowO 1 (by decide) [v5, v6]
def H1 : HeapM := (⟨[], 0⟩ : HeapM).add o1
theorem good1 : H1.Good 10 := by have := good_empty.add o1; exact this.more (by simp [o1, rowO, ObjM.vals])
theorem kL : H1.kind vL = 1 := by decide
theorem rL : H1.rowB vL = true := by decide
theorem seesRow2 {W : World} {g : Nat} {cs : Array Value} {t : TypeId} (hb : W.heap[g]? = some (.cells cs t)) (h0 : cs = #[.int .i64 2, .int .i64 5, .string ⟨#[]⟩, .int .i64 2, .int .i64 6, .string ⟨#[]⟩]) : SeesV W (.slice (some ⟨g, 0, none⟩) 2 2) [v5, v6] := by
  subst h0
  refine ⟨_, _, rfl, Nat.le_refl _, by unfold maxLen; simp, .inr ⟨g, 0, rfl, fun i v hv => ?_⟩⟩
  match i, hv with
  | 0, hv => simp at hv; subst hv; exact ⟨cellAt hb 0 rfl, cellAt hb 1 rfl, cellAt hb 2 rfl⟩
  | 1, hv => simp at hv; subst hv; exact ⟨cellAt hb 3 rfl, cellAt hb 4 rfl, cellAt hb 5 rfl⟩
  | i + 2, hv => simp at hv
set_option maxRecDepth 100000 in
set_option maxHeartbeats 12800000 in
theorem walk (w : World) (is : Bool) (n : Int) (op : ByteArray) (hn : (Lit.int .i64 n).wf = true) (hop : op.size ≤ maxLen) :
    Calls Tryz.prog 10 #[.bool is, .int .i64 n, .string op] w fun e W' => e = .returned (.bool true) ∧ Below w.heap.size w W' := by
  have ok1 : okI (if is = true then 1 else 0) := by cases is <;> decide
  obtain ⟨vb, hvb⟩ : ∃ v : V, v = ⟨1, if is = true then 1 else 0, ⟨#[]⟩, by decide, ok1, by decide⟩ := ⟨_, rfl⟩
  have HB : Hid (.agg #[.int .i64 vb.kind, .int .i64 vb.n, .string vb.s] = Value.agg #[.int .i64 1, .int .i64 (if is = true then 1 else 0), .string ⟨#[]⟩] ∧ vb.kind = 1 ∧ vb.s = ⟨#[]⟩) := Lib.hid (by rw [hvb]; exact ⟨rfl, rfl, rfl⟩)
  have HVB := Lib.hid hvb
  have HN := Lib.hid hn
  have HOP := Lib.hid hop
  have S := Sep.start (Below.refl w.heap.size w)
  have M0 := Lib.hid (shown_ok S)
  clear S hvb hn hop
  go_enter Tryz.func10, Tryz.ntmps10
  go_wp2_with fail
  refine M0.out.mono ?_
  rintro e w1 ⟨rfl, S⟩
  clear M0
  have M := Lib.hid S.new
  clear S
  go_wp2_with fail
  refine M.out.mono ?_
  rintro e w2 ⟨h, rfl, S, -⟩
  clear M
  replace S : Sep w (heapR h ⟨[], 0⟩ :: []) _ := S
  obtain ⟨b5_2, hb5_2⟩ : ∃ base, base = heapR h ⟨[], 0⟩ :: [] := ⟨_, rfl⟩
  have Hb5_2 := Lib.hid hb5_2
  have Kb5_2 : Hid (∀ W (Q : List Res), Sep w (Q ++ b5_2) W → True) := Lib.hid fun W Q T => by
    rw [hb5_2] at T
    trivial
  have K5_1 : Hid (∀ W (Q : List Res), Sep w (Q ++ b5_2) W → Calls Tryz.prog 20 #[.bool is] W fun e W' => e = .returned (.agg #[.int .i64 vb.kind, .int .i64 vb.n, .string vb.s]) ∧ Sep w (Q ++ b5_2) W') := Lib.hid fun W Q T => by
    exact ((lyes_ok W is).mono fun e W' hh => (⟨by rw [HB.out.1]; exact hh.1, hh.2⟩ : _ ∧ _)).mono fun e W' ⟨e1, e2⟩ => ⟨e1, T.later e2⟩
  replace S := Lib.hid S
  clear hb5_2
  go_upto_region 5 with fail
  have S1 : Sep w ([] ++ b5_2) (w2) := by rw [Hb5_2.out]; exact S.out
  clear S
  refine regionL (E := [emptyR]) (base := b5_2) (Sep.putE S1) ?_
  clear S1
  refine quietL (hy := fun E Wx hSw => by (go_simp; exact ⟨rfl, hSw⟩)) (h := ?_)
  simp only [Act.put, List.setIfInBounds_toArray, List.set_cons_zero, List.set_cons_succ]
  refine quietL (hy := fun E Wx hSw => by (go_simp; exact symCall (K5_1.out _ _ hSw))) (h := ?_)
  simp only [Act.put, List.setIfInBounds_toArray, List.set_cons_zero, List.set_cons_succ]
  refine allocL 0 rfl (fun q => .pointer (some ⟨q, 0, none⟩)) (.cells #[.int .i64 0, .int .i64 0, .string ⟨#[]⟩] 29) (h1 := fun Wx => by go_simp) (h2 := fun qB1 => ?_)
  simp only [Act.put, List.setIfInBounds_toArray, List.set_cons_zero, List.set_cons_succ]
  try simp only [List.set_cons_zero, List.set_cons_succ]
  refine detL undef [boxR qB1 (.cells #[.int .i64 vb.kind, .int .i64 vb.n, .string vb.s] 29)] (h1 := fun Wx hSw => by (have hz := hSw.box (b := qB1) (o := .cells #[.int .i64 0, .int .i64 0, .string ⟨#[]⟩] 29) 0 rfl; have z0 := cellAt hz 0 (v := .int .i64 0) rfl; have y0 := frozenAt hz 0; have z1 := cellAt hz 1 (v := .int .i64 0) rfl; have y1 := frozenAt hz 1; have z2 := cellAt hz 2 (v := .string ⟨#[]⟩) rfl; have y2 := frozenAt hz 2; go_simp; exact ⟨rfl, (Sep.setBox (cs := #[.int .i64 vb.kind, .int .i64 vb.n, .string ⟨#[]⟩]) (t := 29) (Sep.setBox (cs := #[.int .i64 vb.kind, .int .i64 0, .string ⟨#[]⟩]) (t := 29) (Sep.setBox (cs := #[.int .i64 0, .int .i64 0, .string ⟨#[]⟩]) (t := 29) hSw 0 rfl 0 (.int .i64 vb.kind)) 0 rfl 1 (.int .i64 vb.n)) 0 rfl 2 (.string vb.s))⟩)) (h2 := ?_)
  simp only [Act.put, List.setIfInBounds_toArray, List.set_cons_zero, List.set_cons_succ]
  intro w4 S
  replace S : Sep w (boxR qB1 (.cells #[.int .i64 vb.kind, .int .i64 vb.n, .string vb.s] 29) :: heapR h ⟨[], 0⟩ :: []) w4 := by rw [Hb5_2.out] at S; exact S
  clear Hb5_2 Kb5_2 K5_1
  replace S : Sep w (heapR h ⟨[], 0⟩ :: boxR qB1 (.cells #[.int .i64 vb.kind, .int .i64 vb.n, .string vb.s] 29) :: []) (w4) := by
    refine (show Sep w ([boxR qB1 (.cells #[.int .i64 vb.kind, .int .i64 vb.n, .string vb.s] 29), heapR h ⟨[], 0⟩] ++ []) _ from S).perm ?_
    exact List.Perm.append_right [] (perm_of (l := [boxR qB1 (.cells #[.int .i64 vb.kind, .int .i64 vb.n, .string vb.s] 29), heapR h ⟨[], 0⟩]) [1, 0] (by show (List.range' 0 2).Perm [1, 0]; decide) (by rfl))
  obtain ⟨b6_4, hb6_4⟩ : ∃ base, base = boxR qB1 (.cells #[.int .i64 vb.kind, .int .i64 vb.n, .string vb.s] 29) :: [] := ⟨_, rfl⟩
  have Hb6_4 := Lib.hid hb6_4
  have Kb6_4 : Hid (∀ W (Q : List Res), Sep w (Q ++ b6_4) W → True) := Lib.hid fun W Q T => by
    rw [hb6_4] at T
    trivial
  have K6_1 : Hid (∀ W (Q : List Res), Sep w (Q ++ b6_4) W → Calls Tryz.prog 16 #[.int .i64 5] W fun e W' => e = .returned (.agg #[.int .i64 2, .int .i64 5, .string ⟨#[]⟩]) ∧ Sep w (Q ++ b6_4) W') := Lib.hid fun W Q T => by
    exact (lnum_ok W 5).mono fun e W' ⟨e1, e2⟩ => ⟨e1, T.later e2⟩
  have K6_2 : Hid (∀ W (Q : List Res), Sep w (Q ++ b6_4) W → Calls Tryz.prog 16 #[.int .i64 6] W fun e W' => e = .returned (.agg #[.int .i64 2, .int .i64 6, .string ⟨#[]⟩]) ∧ Sep w (Q ++ b6_4) W') := Lib.hid fun W Q T => by
    exact (lnum_ok W 6).mono fun e W' ⟨e1, e2⟩ => ⟨e1, T.later e2⟩
  replace S := Lib.hid S
  clear hb6_4
  go_upto_region 6 with fail
  have S1 : Sep w ([heapR h ⟨[], 0⟩] ++ b6_4) (w4) := by rw [Hb6_4.out]; exact S.out
  clear S
  refine regionL (E := [emptyR, emptyR, heapR h ⟨[], 0⟩]) (base := b6_4) (Sep.putE (Sep.putE S1)) ?_
  clear S1
  refine quietL (hy := fun E Wx hSw => by (go_simp; exact ⟨rfl, hSw⟩)) (h := ?_)
  simp only [Act.put, List.setIfInBounds_toArray, List.set_cons_zero, List.set_cons_succ]
  refine quietL (hy := fun E Wx hSw => by (go_simp; exact symCall (K6_1.out _ _ hSw))) (h := ?_)
  simp only [Act.put, List.setIfInBounds_toArray, List.set_cons_zero, List.set_cons_succ]
  refine quietL (hy := fun E Wx hSw => by (go_simp; exact symCall (K6_2.out _ _ hSw))) (h := ?_)
  simp only [Act.put, List.setIfInBounds_toArray, List.set_cons_zero, List.set_cons_succ]
  refine allocL 0 rfl (fun q => .slice (some ⟨q, 0, none⟩) 2 2) (.cells #[.int .i64 2, .int .i64 5, .string ⟨#[]⟩, .int .i64 2, .int .i64 6, .string ⟨#[]⟩] 29) (h1 := fun Wx => by go_simp) (h2 := fun qQ1 => ?_)
  simp only [Act.put, List.setIfInBounds_toArray, List.set_cons_zero, List.set_cons_succ]
  try simp only [List.set_cons_zero, List.set_cons_succ]
  refine detL (.agg #[.int .i64 4, .int .i64 1, .string ⟨#[]⟩]) [boxR qQ1 (.cells #[.int .i64 2, .int .i64 5, .string ⟨#[]⟩, .int .i64 2, .int .i64 6, .string ⟨#[]⟩] 29), emptyR, heapR h H1] (h1 := fun Wx hSw => by (go_simp; refine symCall ?_; exact hSw.make 2 rfl good_empty (by omega) o1 (.slice (some ⟨qQ1, 0, none⟩) 2 2) (seesRow2 (hSw.box (b := qQ1) 0 rfl) rfl) (by simp [o1, rowO]) rfl (by simp [o1, rowO]) (by simp [o1, rowO]))) (h2 := ?_)
  simp only [Act.put, List.setIfInBounds_toArray, List.set_cons_zero, List.set_cons_succ]
  refine allocL 1 rfl (fun q => .pointer (some ⟨q, 0, none⟩)) (.cells #[.int .i64 0, .int .i64 0, .string ⟨#[]⟩] 29) (h1 := fun Wx => by go_simp) (h2 := fun qL3 => ?_)
  simp only [Act.put, List.setIfInBounds_toArray, List.set_cons_zero, List.set_cons_succ]
  try simp only [List.set_cons_zero, List.set_cons_succ]
  refine detL undef [boxR qQ1 (.cells #[.int .i64 2, .int .i64 5, .string ⟨#[]⟩, .int .i64 2, .int .i64 6, .string ⟨#[]⟩] 29), boxR qL3 (.cells #[.int .i64 4, .int .i64 1, .string ⟨#[]⟩] 29), heapR h H1] (h1 := fun Wx hSw => by (have hz := hSw.box (b := qL3) (o := .cells #[.int .i64 0, .int .i64 0, .string ⟨#[]⟩] 29) 1 rfl; have z0 := cellAt hz 0 (v := .int .i64 0) rfl; have y0 := frozenAt hz 0; have z1 := cellAt hz 1 (v := .int .i64 0) rfl; have y1 := frozenAt hz 1; have z2 := cellAt hz 2 (v := .string ⟨#[]⟩) rfl; have y2 := frozenAt hz 2; go_simp; exact ⟨rfl, (Sep.setBox (cs := #[.int .i64 4, .int .i64 1, .string ⟨#[]⟩]) (t := 29) (Sep.setBox (cs := #[.int .i64 4, .int .i64 0, .string ⟨#[]⟩]) (t := 29) (Sep.setBox (cs := #[.int .i64 0, .int .i64 0, .string ⟨#[]⟩]) (t := 29) hSw 1 rfl 0 (.int .i64 4)) 1 rfl 1 (.int .i64 1)) 1 rfl 2 (.string ⟨#[]⟩))⟩)) (h2 := ?_)
  simp only [Act.put, List.setIfInBounds_toArray, List.set_cons_zero, List.set_cons_succ]
  intro w6 S
  replace S : Sep w (boxR qQ1 (.cells #[.int .i64 2, .int .i64 5, .string ⟨#[]⟩, .int .i64 2, .int .i64 6, .string ⟨#[]⟩] 29) :: boxR qL3 (.cells #[.int .i64 4, .int .i64 1, .string ⟨#[]⟩] 29) :: heapR h H1 :: boxR qB1 (.cells #[.int .i64 vb.kind, .int .i64 vb.n, .string vb.s] 29) :: []) w6 := by rw [Hb6_4.out] at S; exact S
  clear Hb6_4 Kb6_4 K6_1 K6_2
  obtain ⟨b7_6, hb7_6⟩ : ∃ base, base = boxR qQ1 (.cells #[.int .i64 2, .int .i64 5, .string ⟨#[]⟩, .int .i64 2, .int .i64 6, .string ⟨#[]⟩] 29) :: boxR qL3 (.cells #[.int .i64 4, .int .i64 1, .string ⟨#[]⟩] 29) :: heapR h H1 :: boxR qB1 (.cells #[.int .i64 vb.kind, .int .i64 vb.n, .string vb.s] 29) :: [] := ⟨_, rfl⟩
  have Hb7_6 := Lib.hid hb7_6
  have Kb7_6 : Hid (∀ W (Q : List Res), Sep w (Q ++ b7_6) W → True) := Lib.hid fun W Q T => by
    rw [hb7_6] at T
    trivial
  have Cb7_6_0 : Hid (∀ W (Q : List Res), Sep w (Q ++ b7_6) W → W.cell? ⟨qB1, 0, none⟩ = some (.int .i64 vb.kind) ∧ W.cell? ⟨qB1, 1, none⟩ = some (.int .i64 vb.n) ∧ W.cell? ⟨qB1, 2, none⟩ = some (.string vb.s)) := Lib.hid fun W Q T => by
    rw [hb7_6] at T
    have i0 := T.box (b := qB1) (o := .cells #[.int .i64 vb.kind, .int .i64 vb.n, .string vb.s] 29) (Q.length + 3) (by rw [List.getElem?_append_right (by omega), Nat.add_sub_cancel_left]; rfl)
    exact ⟨cellAt i0 0 rfl, cellAt i0 1 rfl, cellAt i0 2 rfl⟩
  have K7_4 : Hid (∀ W (Q : List Res), Sep w (Q ++ b7_6) W → Calls Tryz.prog 16 #[.int .i64 n] W fun e W' => e = .returned (.agg #[.int .i64 2, .int .i64 n, .string ⟨#[]⟩]) ∧ Sep w (Q ++ b7_6) W') := Lib.hid fun W Q T => by
    exact (lnum_ok W n).mono fun e W' ⟨e1, e2⟩ => ⟨e1, T.later e2⟩
  have K7_5 : Hid (∀ W (Q : List Res), Sep w (Q ++ b7_6) W → Calls Tryz.prog 23 #[.pointer (some ⟨h, 0, none⟩), .string op, .agg #[.int .i64 vb.kind, .int .i64 vb.n, .string vb.s], .agg #[.int .i64 2, .int .i64 n, .string ⟨#[]⟩]] W fun e W' => e = .returned (.tuple #[zeroV, excN typeError]) ∧ Sep w (Q ++ b7_6) W') := Lib.hid fun W Q T => by
    rw [Hb7_6.out] at T ⊢
    exact bin_wrong T (Q.length + 2) (by rw [List.getElem?_append_right (by omega), Nat.add_sub_cancel_left]; rfl) op HOP.out vb (vI n HN.out) (fun e => absurd e.1 (by rw [HB.out.2.1]; decide)) (fun e => absurd e.1 (by rw [HB.out.2.1]; decide)) (fun e => by rw [HeapM.rowB_no H1 vb (by rw [HB.out.2.1]; decide)] at e; cases e.1) (by rw [HB.out.2.1]; decide) (show ¬ (2 : Int) = 3 by decide) (.inl (HeapM.rowB_no H1 vb (by rw [HB.out.2.1]; decide))) (.inl (HeapM.rowB_no H1 _ (show ¬ (2 : Int) = 4 by decide)))
  replace S := Lib.hid S
  clear hb7_6
  go_upto_region 7 with fail
  go_cut [11, 12] (fun s11 s12 wx => ∃ qq0_7 qq1_7, s11 = .pointer (some ⟨qq0_7, 0, none⟩) ∧ s12 = .pointer (some ⟨qq1_7, 0, none⟩) ∧ Sep w ([boxR qq0_7 (.cells #[.int .i64 0, .int .i64 0, .string ⟨#[]⟩] 29), boxR qq1_7 (.cells #[.string typeError, .int .i64 0, .int .i64 0, .string ⟨#[]⟩, .bool false] 38)] ++ b7_6) wx)
  case first =>
    have S1 : Sep w ([] ++ b7_6) (w6) := by rw [Hb7_6.out]; exact S.out
    clear S
    refine regionP 9 4 (E := [emptyR, emptyR]) (base := b7_6) (Sep.putE (Sep.putE S1)) ?_
    clear S1
    refine quietP (hy := fun E Wx hSw => by (go_simp; exact ⟨rfl, hSw⟩)) (h := ?_)
    simp only [Act.put, List.setIfInBounds_toArray, List.set_cons_zero, List.set_cons_succ]
    refine quietP (hy := fun E Wx hSw => by (go_simp; exact ⟨rfl, hSw⟩)) (h := ?_)
    simp only [Act.put, List.setIfInBounds_toArray, List.set_cons_zero, List.set_cons_succ]
    refine quietP (hy := fun E Wx hSw => by ((obtain ⟨u0, u1, u2⟩ := Cb7_6_0.out _ _ hSw); go_simp; exact ⟨rfl, hSw⟩)) (h := ?_)
    simp only [Act.put, List.setIfInBounds_toArray, List.set_cons_zero, List.set_cons_succ]
    refine quietP (hy := fun E Wx hSw => by (go_simp; exact ⟨rfl, hSw⟩)) (h := ?_)
    simp only [Act.put, List.setIfInBounds_toArray, List.set_cons_zero, List.set_cons_succ]
    refine quietP (hy := fun E Wx hSw => by (go_simp; exact symCall (K7_4.out _ _ hSw))) (h := ?_)
    simp only [Act.put, List.setIfInBounds_toArray, List.set_cons_zero, List.set_cons_succ]
    refine quietP (hy := fun E Wx hSw => by (go_simp; exact symCall (K7_5.out _ _ hSw))) (h := ?_)
    simp only [Act.put, List.setIfInBounds_toArray, List.set_cons_zero, List.set_cons_succ]
    refine quietP (hy := fun E Wx hSw => by (go_simp; exact ⟨rfl, hSw⟩)) (h := ?_)
    simp only [Act.put, List.setIfInBounds_toArray, List.set_cons_zero, List.set_cons_succ]
    refine quietP (hy := fun E Wx hSw => by (go_simp; exact ⟨rfl, hSw⟩)) (h := ?_)
    simp only [Act.put, List.setIfInBounds_toArray, List.set_cons_zero, List.set_cons_succ]
    refine quietP (hy := fun E Wx hSw => by (go_simp; exact ⟨rfl, hSw⟩)) (h := ?_)
    simp only [Act.put, List.setIfInBounds_toArray, List.set_cons_zero, List.set_cons_succ]
    refine endP ?_
    refine readyS [9, 10] ?_
    refine allocS 0 rfl (fun q => .pointer (some ⟨q, 0, none⟩)) (.cells #[.int .i64 0, .int .i64 0, .string ⟨#[]⟩] 29) (h1 := fun Wx => by go_simp) (h2 := fun qa1 => ?_) (hs := ?_)
    · simp only [Act.put, List.setIfInBounds_toArray, List.set_cons_zero, List.set_cons_succ]
      try simp only [List.set_cons_zero, List.set_cons_succ]
      refine readyS [10] ?_
      refine allocS 1 rfl (fun q => .pointer (some ⟨q, 0, none⟩)) (.cells #[.string ⟨#[]⟩, .int .i64 0, .int .i64 0, .string ⟨#[]⟩, .bool false] 38) (h1 := fun Wx => by go_simp) (h2 := fun qb2 => ?_) (hs := nilS)
      simp only [Act.put, List.setIfInBounds_toArray, List.set_cons_zero, List.set_cons_succ]
      try simp only [List.set_cons_zero, List.set_cons_succ]
      refine readyS [11] ?_
      refine detS undef [boxR qa1 (.cells #[.int .i64 0, .int .i64 0, .string ⟨#[]⟩] 29), boxR qb2 (.cells #[.string ⟨#[]⟩, .int .i64 0, .int .i64 0, .string ⟨#[]⟩, .bool false] 38)] (h1 := fun Wx hSw => by (have hz := hSw.box (b := qa1) (o := .cells #[.int .i64 0, .int .i64 0, .string ⟨#[]⟩] 29) 0 rfl; have z0 := cellAt hz 0 (v := .int .i64 0) rfl; have y0 := frozenAt hz 0; have z1 := cellAt hz 1 (v := .int .i64 0) rfl; have y1 := frozenAt hz 1; have z2 := cellAt hz 2 (v := .string ⟨#[]⟩) rfl; have y2 := frozenAt hz 2; go_simp; exact ⟨rfl, (Sep.setBox (cs := #[.int .i64 0, .int .i64 0, .string ⟨#[]⟩]) (t := 29) (Sep.setBox (cs := #[.int .i64 0, .int .i64 0, .string ⟨#[]⟩]) (t := 29) (Sep.setBox (cs := #[.int .i64 0, .int .i64 0, .string ⟨#[]⟩]) (t := 29) hSw 0 rfl 0 (.int .i64 0)) 0 rfl 1 (.int .i64 0)) 0 rfl 2 (.string ⟨#[]⟩))⟩)) (h2 := ?_) (hs := nilS)
      simp only [Act.put, List.setIfInBounds_toArray, List.set_cons_zero, List.set_cons_succ]
      refine readyS [12] ?_
      refine detS undef [boxR qa1 (.cells #[.int .i64 0, .int .i64 0, .string ⟨#[]⟩] 29), boxR qb2 (.cells #[.string typeError, .int .i64 0, .int .i64 0, .string ⟨#[]⟩, .bool false] 38)] (h1 := fun Wx hSw => by (have hz := hSw.box (b := qb2) (o := .cells #[.string ⟨#[]⟩, .int .i64 0, .int .i64 0, .string ⟨#[]⟩, .bool false] 38) 1 rfl; have z0 := cellAt hz 0 (v := .string ⟨#[]⟩) rfl; have y0 := frozenAt hz 0; have z1 := cellAt hz 1 (v := .int .i64 0) rfl; have y1 := frozenAt hz 1; have z2 := cellAt hz 2 (v := .int .i64 0) rfl; have y2 := frozenAt hz 2; have z3 := cellAt hz 3 (v := .string ⟨#[]⟩) rfl; have y3 := frozenAt hz 3; have z4 := cellAt hz 4 (v := .bool false) rfl; have y4 := frozenAt hz 4; go_simp; exact ⟨rfl, (Sep.setBox (cs := #[.string typeError, .int .i64 0, .int .i64 0, .string ⟨#[]⟩, .bool false]) (t := 38) (Sep.setBox (cs := #[.string typeError, .int .i64 0, .int .i64 0, .string ⟨#[]⟩, .bool false]) (t := 38) (Sep.setBox (cs := #[.string typeError, .int .i64 0, .int .i64 0, .string ⟨#[]⟩, .bool false]) (t := 38) (Sep.setBox (cs := #[.string typeError, .int .i64 0, .int .i64 0, .string ⟨#[]⟩, .bool false]) (t := 38) (Sep.setBox (cs := #[.string ⟨#[]⟩, .int .i64 0, .int .i64 0, .string ⟨#[]⟩, .bool false]) (t := 38) hSw 1 rfl 0 (.string typeError)) 1 rfl 1 (.int .i64 0)) 1 rfl 2 (.int .i64 0)) 1 rfl 3 (.string ⟨#[]⟩)) 1 rfl 4 (.bool false))⟩)) (h2 := ?_) (hs := nilS)
      simp only [Act.put, List.setIfInBounds_toArray, List.set_cons_zero, List.set_cons_succ]
      refine doneS (h := fun w8 S => ?_)
      go_wp2_with fail
      go_meet
      exact ⟨_, _, rfl, rfl, S⟩
    refine allocS 1 rfl (fun q => .pointer (some ⟨q, 0, none⟩)) (.cells #[.string ⟨#[]⟩, .int .i64 0, .int .i64 0, .string ⟨#[]⟩, .bool false] 38) (h1 := fun Wx => by go_simp) (h2 := fun qb5 => ?_) (hs := ?_)
    · simp only [Act.put, List.setIfInBounds_toArray, List.set_cons_zero, List.set_cons_succ]
      try simp only [List.set_cons_zero, List.set_cons_succ]
      refine readyS [9] ?_
      refine allocS 0 rfl (fun q => .pointer (some ⟨q, 0, none⟩)) (.cells #[.int .i64 0, .int .i64 0, .string ⟨#[]⟩] 29) (h1 := fun Wx => by go_simp) (h2 := fun qa6 => ?_) (hs := nilS)
      simp only [Act.put, List.setIfInBounds_toArray, List.set_cons_zero, List.set_cons_succ]
      try simp only [List.set_cons_zero, List.set_cons_succ]
      refine readyS [11] ?_
      refine detS undef [boxR qa6 (.cells #[.int .i64 0, .int .i64 0, .string ⟨#[]⟩] 29), boxR qb5 (.cells #[.string ⟨#[]⟩, .int .i64 0, .int .i64 0, .string ⟨#[]⟩, .bool false] 38)] (h1 := fun Wx hSw => by (have hz := hSw.box (b := qa6) (o := .cells #[.int .i64 0, .int .i64 0, .string ⟨#[]⟩] 29) 0 rfl; have z0 := cellAt hz 0 (v := .int .i64 0) rfl; have y0 := frozenAt hz 0; have z1 := cellAt hz 1 (v := .int .i64 0) rfl; have y1 := frozenAt hz 1; have z2 := cellAt hz 2 (v := .string ⟨#[]⟩) rfl; have y2 := frozenAt hz 2; go_simp; exact ⟨rfl, (Sep.setBox (cs := #[.int .i64 0, .int .i64 0, .string ⟨#[]⟩]) (t := 29) (Sep.setBox (cs := #[.int .i64 0, .int .i64 0, .string ⟨#[]⟩]) (t := 29) (Sep.setBox (cs := #[.int .i64 0, .int .i64 0, .string ⟨#[]⟩]) (t := 29) hSw 0 rfl 0 (.int .i64 0)) 0 rfl 1 (.int .i64 0)) 0 rfl 2 (.string ⟨#[]⟩))⟩)) (h2 := ?_) (hs := nilS)
      simp only [Act.put, List.setIfInBounds_toArray, List.set_cons_zero, List.set_cons_succ]
      refine readyS [12] ?_
      refine detS undef [boxR qa6 (.cells #[.int .i64 0, .int .i64 0, .string ⟨#[]⟩] 29), boxR qb5 (.cells #[.string typeError, .int .i64 0, .int .i64 0, .string ⟨#[]⟩, .bool false] 38)] (h1 := fun Wx hSw => by (have hz := hSw.box (b := qb5) (o := .cells #[.string ⟨#[]⟩, .int .i64 0, .int .i64 0, .string ⟨#[]⟩, .bool false] 38) 1 rfl; have z0 := cellAt hz 0 (v := .string ⟨#[]⟩) rfl; have y0 := frozenAt hz 0; have z1 := cellAt hz 1 (v := .int .i64 0) rfl; have y1 := frozenAt hz 1; have z2 := cellAt hz 2 (v := .int .i64 0) rfl; have y2 := frozenAt hz 2; have z3 := cellAt hz 3 (v := .string ⟨#[]⟩) rfl; have y3 := frozenAt hz 3; have z4 := cellAt hz 4 (v := .bool false) rfl; have y4 := frozenAt hz 4; go_simp; exact ⟨rfl, (Sep.setBox (cs := #[.string typeError, .int .i64 0, .int .i64 0, .string ⟨#[]⟩, .bool false]) (t := 38) (Sep.setBox (cs := #[.string typeError, .int .i64 0, .int .i64 0, .string ⟨#[]⟩, .bool false]) (t := 38) (Sep.setBox (cs := #[.string typeError, .int .i64 0, .int .i64 0, .string ⟨#[]⟩, .bool false]) (t := 38) (Sep.setBox (cs := #[.string typeError, .int .i64 0, .int .i64 0, .string ⟨#[]⟩, .bool false]) (t := 38) (Sep.setBox (cs := #[.string ⟨#[]⟩, .int .i64 0, .int .i64 0, .string ⟨#[]⟩, .bool false]) (t := 38) hSw 1 rfl 0 (.string typeError)) 1 rfl 1 (.int .i64 0)) 1 rfl 2 (.int .i64 0)) 1 rfl 3 (.string ⟨#[]⟩)) 1 rfl 4 (.bool false))⟩)) (h2 := ?_) (hs := nilS)
      simp only [Act.put, List.setIfInBounds_toArray, List.set_cons_zero, List.set_cons_succ]
      refine doneS (h := fun w8 S => ?_)
      go_wp2_with fail
      go_meet
      exact ⟨_, _, rfl, rfl, S⟩
    exact nilS
  case rest =>
    obtain ⟨qq0_7, qq1_7, rfl, rfl, S⟩ := hcut
    replace S : Sep w (boxR qq0_7 (.cells #[.int .i64 0, .int .i64 0, .string ⟨#[]⟩] 29) :: boxR qq1_7 (.cells #[.string typeError, .int .i64 0, .int .i64 0, .string ⟨#[]⟩, .bool false] 38) :: boxR qQ1 (.cells #[.int .i64 2, .int .i64 5, .string ⟨#[]⟩, .int .i64 2, .int .i64 6, .string ⟨#[]⟩] 29) :: boxR qL3 (.cells #[.int .i64 4, .int .i64 1, .string ⟨#[]⟩] 29) :: heapR h H1 :: boxR qB1 (.cells #[.int .i64 vb.kind, .int .i64 vb.n, .string vb.s] 29) :: []) wc := by rw [Hb7_6.out] at S; exact S
    clear Hb7_6 Kb7_6 K7_4 K7_5 Cb7_6_0
    obtain ⟨b8_8, hb8_8⟩ : ∃ base, base = boxR qq0_7 (.cells #[.int .i64 0, .int .i64 0, .string ⟨#[]⟩] 29) :: boxR qq1_7 (.cells #[.string typeError, .int .i64 0, .int .i64 0, .string ⟨#[]⟩, .bool false] 38) :: boxR qQ1 (.cells #[.int .i64 2, .int .i64 5, .string ⟨#[]⟩, .int .i64 2, .int .i64 6, .string ⟨#[]⟩] 29) :: boxR qL3 (.cells #[.int .i64 4, .int .i64 1, .string ⟨#[]⟩] 29) :: heapR h H1 :: boxR qB1 (.cells #[.int .i64 vb.kind, .int .i64 vb.n, .string vb.s] 29) :: [] := ⟨_, rfl⟩
    have Hb8_8 := Lib.hid hb8_8
    have Kb8_8 : Hid (∀ W (Q : List Res), Sep w (Q ++ b8_8) W → True) := Lib.hid fun W Q T => by
      rw [hb8_8] at T
      trivial
    have Cb8_8_0 : Hid (∀ W (Q : List Res), Sep w (Q ++ b8_8) W → W.cell? ⟨qB1, 0, none⟩ = some (.int .i64 vb.kind) ∧ W.cell? ⟨qB1, 1, none⟩ = some (.int .i64 vb.n) ∧ W.cell? ⟨qB1, 2, none⟩ = some (.string vb.s)) := Lib.hid fun W Q T => by
      rw [hb8_8] at T
      have i0 := T.box (b := qB1) (o := .cells #[.int .i64 vb.kind, .int .i64 vb.n, .string vb.s] 29) (Q.length + 5) (by rw [List.getElem?_append_right (by omega), Nat.add_sub_cancel_left]; rfl)
      exact ⟨cellAt i0 0 rfl, cellAt i0 1 rfl, cellAt i0 2 rfl⟩
    have K8_3 : Hid (∀ W (Q : List Res), Sep w (Q ++ b8_8) W → Calls Tryz.prog 16 #[.int .i64 n] W fun e W' => e = .returned (.agg #[.int .i64 2, .int .i64 n, .string ⟨#[]⟩]) ∧ Sep w (Q ++ b8_8) W') := Lib.hid fun W Q T => by
      exact (lnum_ok W n).mono fun e W' ⟨e1, e2⟩ => ⟨e1, T.later e2⟩
    have K8_5 : Hid (∀ W (Q : List Res), Sep w (Q ++ b8_8) W → Calls Tryz.prog 23 #[.pointer (some ⟨h, 0, none⟩), .string op, .agg #[.int .i64 2, .int .i64 n, .string ⟨#[]⟩], .agg #[.int .i64 vb.kind, .int .i64 vb.n, .string vb.s]] W fun e W' => e = .returned (.tuple #[zeroV, excN typeError]) ∧ Sep w (Q ++ b8_8) W') := Lib.hid fun W Q T => by
      rw [Hb8_8.out] at T ⊢
      exact bin_wrong T (Q.length + 4) (by rw [List.getElem?_append_right (by omega), Nat.add_sub_cancel_left]; rfl) op HOP.out (vI n HN.out) vb (fun e => absurd e.2 (by rw [HB.out.2.1]; decide)) (fun e => absurd e.2 (by rw [HB.out.2.1]; decide)) (fun e => by rw [HeapM.rowB_no H1 _ (show ¬ (2 : Int) = 4 by decide)] at e; cases e.1) (show ¬ (2 : Int) = 3 by decide) (by rw [HB.out.2.1]; decide) (.inl (HeapM.rowB_no H1 _ (show ¬ (2 : Int) = 4 by decide))) (.inl (HeapM.rowB_no H1 vb (by rw [HB.out.2.1]; decide)))
    replace S := Lib.hid S
    clear hb8_8
    go_upto_region 8 with fail
    go_cut [13, 14] (fun s13 s14 wx => ∃ qq0_8 qq1_8, s13 = .pointer (some ⟨qq0_8, 0, none⟩) ∧ s14 = .pointer (some ⟨qq1_8, 0, none⟩) ∧ Sep w ([boxR qq0_8 (.cells #[.int .i64 0, .int .i64 0, .string ⟨#[]⟩] 29), boxR qq1_8 (.cells #[.string typeError, .int .i64 0, .int .i64 0, .string ⟨#[]⟩, .bool false] 38)] ++ b8_8) wx)
    case first =>
      have S1 : Sep w ([] ++ b8_8) (wc) := by rw [Hb8_8.out]; exact S.out
      clear S
      refine regionP 9 4 (E := [emptyR, emptyR]) (base := b8_8) (Sep.putE (Sep.putE S1)) ?_
      clear S1
      refine quietP (hy := fun E Wx hSw => by (go_simp; exact ⟨rfl, hSw⟩)) (h := ?_)
      simp only [Act.put, List.setIfInBounds_toArray, List.set_cons_zero, List.set_cons_succ]
      refine quietP (hy := fun E Wx hSw => by (go_simp; exact ⟨rfl, hSw⟩)) (h := ?_)
      simp only [Act.put, List.setIfInBounds_toArray, List.set_cons_zero, List.set_cons_succ]
      refine quietP (hy := fun E Wx hSw => by (go_simp; exact ⟨rfl, hSw⟩)) (h := ?_)
      simp only [Act.put, List.setIfInBounds_toArray, List.set_cons_zero, List.set_cons_succ]
      refine quietP (hy := fun E Wx hSw => by (go_simp; exact symCall (K8_3.out _ _ hSw))) (h := ?_)
      simp only [Act.put, List.setIfInBounds_toArray, List.set_cons_zero, List.set_cons_succ]
      refine quietP (hy := fun E Wx hSw => by ((obtain ⟨u0, u1, u2⟩ := Cb8_8_0.out _ _ hSw); go_simp; exact ⟨rfl, hSw⟩)) (h := ?_)
      simp only [Act.put, List.setIfInBounds_toArray, List.set_cons_zero, List.set_cons_succ]
      refine quietP (hy := fun E Wx hSw => by (go_simp; exact symCall (K8_5.out _ _ hSw))) (h := ?_)
      simp only [Act.put, List.setIfInBounds_toArray, List.set_cons_zero, List.set_cons_succ]
      refine quietP (hy := fun E Wx hSw => by (go_simp; exact ⟨rfl, hSw⟩)) (h := ?_)
      simp only [Act.put, List.setIfInBounds_toArray, List.set_cons_zero, List.set_cons_succ]
      refine quietP (hy := fun E Wx hSw => by (go_simp; exact ⟨rfl, hSw⟩)) (h := ?_)
      simp only [Act.put, List.setIfInBounds_toArray, List.set_cons_zero, List.set_cons_succ]
      refine quietP (hy := fun E Wx hSw => by (go_simp; exact ⟨rfl, hSw⟩)) (h := ?_)
      simp only [Act.put, List.setIfInBounds_toArray, List.set_cons_zero, List.set_cons_succ]
      refine endP ?_
      refine readyS [9, 10] ?_
      refine allocS 0 rfl (fun q => .pointer (some ⟨q, 0, none⟩)) (.cells #[.int .i64 0, .int .i64 0, .string ⟨#[]⟩] 29) (h1 := fun Wx => by go_simp) (h2 := fun qa1 => ?_) (hs := ?_)
      · simp only [Act.put, List.setIfInBounds_toArray, List.set_cons_zero, List.set_cons_succ]
        try simp only [List.set_cons_zero, List.set_cons_succ]
        refine readyS [10] ?_
        refine allocS 1 rfl (fun q => .pointer (some ⟨q, 0, none⟩)) (.cells #[.string ⟨#[]⟩, .int .i64 0, .int .i64 0, .string ⟨#[]⟩, .bool false] 38) (h1 := fun Wx => by go_simp) (h2 := fun qb2 => ?_) (hs := nilS)
        simp only [Act.put, List.setIfInBounds_toArray, List.set_cons_zero, List.set_cons_succ]
        try simp only [List.set_cons_zero, List.set_cons_succ]
        refine readyS [11] ?_
        refine detS undef [boxR qa1 (.cells #[.int .i64 0, .int .i64 0, .string ⟨#[]⟩] 29), boxR qb2 (.cells #[.string ⟨#[]⟩, .int .i64 0, .int .i64 0, .string ⟨#[]⟩, .bool false] 38)] (h1 := fun Wx hSw => by (have hz := hSw.box (b := qa1) (o := .cells #[.int .i64 0, .int .i64 0, .string ⟨#[]⟩] 29) 0 rfl; have z0 := cellAt hz 0 (v := .int .i64 0) rfl; have y0 := frozenAt hz 0; have z1 := cellAt hz 1 (v := .int .i64 0) rfl; have y1 := frozenAt hz 1; have z2 := cellAt hz 2 (v := .string ⟨#[]⟩) rfl; have y2 := frozenAt hz 2; go_simp; exact ⟨rfl, (Sep.setBox (cs := #[.int .i64 0, .int .i64 0, .string ⟨#[]⟩]) (t := 29) (Sep.setBox (cs := #[.int .i64 0, .int .i64 0, .string ⟨#[]⟩]) (t := 29) (Sep.setBox (cs := #[.int .i64 0, .int .i64 0, .string ⟨#[]⟩]) (t := 29) hSw 0 rfl 0 (.int .i64 0)) 0 rfl 1 (.int .i64 0)) 0 rfl 2 (.string ⟨#[]⟩))⟩)) (h2 := ?_) (hs := nilS)
        simp only [Act.put, List.setIfInBounds_toArray, List.set_cons_zero, List.set_cons_succ]
        refine readyS [12] ?_
        refine detS undef [boxR qa1 (.cells #[.int .i64 0, .int .i64 0, .string ⟨#[]⟩] 29), boxR qb2 (.cells #[.string typeError, .int .i64 0, .int .i64 0, .string ⟨#[]⟩, .bool false] 38)] (h1 := fun Wx hSw => by (have hz := hSw.box (b := qb2) (o := .cells #[.string ⟨#[]⟩, .int .i64 0, .int .i64 0, .string ⟨#[]⟩, .bool false] 38) 1 rfl; have z0 := cellAt hz 0 (v := .string ⟨#[]⟩) rfl; have y0 := frozenAt hz 0; have z1 := cellAt hz 1 (v := .int .i64 0) rfl; have y1 := frozenAt hz 1; have z2 := cellAt hz 2 (v := .int .i64 0) rfl; have y2 := frozenAt hz 2; have z3 := cellAt hz 3 (v := .string ⟨#[]⟩) rfl; have y3 := frozenAt hz 3; have z4 := cellAt hz 4 (v := .bool false) rfl; have y4 := frozenAt hz 4; go_simp; exact ⟨rfl, (Sep.setBox (cs := #[.string typeError, .int .i64 0, .int .i64 0, .string ⟨#[]⟩, .bool false]) (t := 38) (Sep.setBox (cs := #[.string typeError, .int .i64 0, .int .i64 0, .string ⟨#[]⟩, .bool false]) (t := 38) (Sep.setBox (cs := #[.string typeError, .int .i64 0, .int .i64 0, .string ⟨#[]⟩, .bool false]) (t := 38) (Sep.setBox (cs := #[.string typeError, .int .i64 0, .int .i64 0, .string ⟨#[]⟩, .bool false]) (t := 38) (Sep.setBox (cs := #[.string ⟨#[]⟩, .int .i64 0, .int .i64 0, .string ⟨#[]⟩, .bool false]) (t := 38) hSw 1 rfl 0 (.string typeError)) 1 rfl 1 (.int .i64 0)) 1 rfl 2 (.int .i64 0)) 1 rfl 3 (.string ⟨#[]⟩)) 1 rfl 4 (.bool false))⟩)) (h2 := ?_) (hs := nilS)
        simp only [Act.put, List.setIfInBounds_toArray, List.set_cons_zero, List.set_cons_succ]
        refine doneS (h := fun w10 S => ?_)
        go_wp2_with fail
        go_meet
        exact ⟨_, _, rfl, rfl, S⟩
      refine allocS 1 rfl (fun q => .pointer (some ⟨q, 0, none⟩)) (.cells #[.string ⟨#[]⟩, .int .i64 0, .int .i64 0, .string ⟨#[]⟩, .bool false] 38) (h1 := fun Wx => by go_simp) (h2 := fun qb5 => ?_) (hs := ?_)
      · simp only [Act.put, List.setIfInBounds_toArray, List.set_cons_zero, List.set_cons_succ]
        try simp only [List.set_cons_zero, List.set_cons_succ]
        refine readyS [9] ?_
        refine allocS 0 rfl (fun q => .pointer (some ⟨q, 0, none⟩)) (.cells #[.int .i64 0, .int .i64 0, .string ⟨#[]⟩] 29) (h1 := fun Wx => by go_simp) (h2 := fun qa6 => ?_) (hs := nilS)
        simp only [Act.put, List.setIfInBounds_toArray, List.set_cons_zero, List.set_cons_succ]
        try simp only [List.set_cons_zero, List.set_cons_succ]
        refine readyS [11] ?_
        refine detS undef [boxR qa6 (.cells #[.int .i64 0, .int .i64 0, .string ⟨#[]⟩] 29), boxR qb5 (.cells #[.string ⟨#[]⟩, .int .i64 0, .int .i64 0, .string ⟨#[]⟩, .bool false] 38)] (h1 := fun Wx hSw => by (have hz := hSw.box (b := qa6) (o := .cells #[.int .i64 0, .int .i64 0, .string ⟨#[]⟩] 29) 0 rfl; have z0 := cellAt hz 0 (v := .int .i64 0) rfl; have y0 := frozenAt hz 0; have z1 := cellAt hz 1 (v := .int .i64 0) rfl; have y1 := frozenAt hz 1; have z2 := cellAt hz 2 (v := .string ⟨#[]⟩) rfl; have y2 := frozenAt hz 2; go_simp; exact ⟨rfl, (Sep.setBox (cs := #[.int .i64 0, .int .i64 0, .string ⟨#[]⟩]) (t := 29) (Sep.setBox (cs := #[.int .i64 0, .int .i64 0, .string ⟨#[]⟩]) (t := 29) (Sep.setBox (cs := #[.int .i64 0, .int .i64 0, .string ⟨#[]⟩]) (t := 29) hSw 0 rfl 0 (.int .i64 0)) 0 rfl 1 (.int .i64 0)) 0 rfl 2 (.string ⟨#[]⟩))⟩)) (h2 := ?_) (hs := nilS)
        simp only [Act.put, List.setIfInBounds_toArray, List.set_cons_zero, List.set_cons_succ]
        refine readyS [12] ?_
        refine detS undef [boxR qa6 (.cells #[.int .i64 0, .int .i64 0, .string ⟨#[]⟩] 29), boxR qb5 (.cells #[.string typeError, .int .i64 0, .int .i64 0, .string ⟨#[]⟩, .bool false] 38)] (h1 := fun Wx hSw => by (have hz := hSw.box (b := qb5) (o := .cells #[.string ⟨#[]⟩, .int .i64 0, .int .i64 0, .string ⟨#[]⟩, .bool false] 38) 1 rfl; have z0 := cellAt hz 0 (v := .string ⟨#[]⟩) rfl; have y0 := frozenAt hz 0; have z1 := cellAt hz 1 (v := .int .i64 0) rfl; have y1 := frozenAt hz 1; have z2 := cellAt hz 2 (v := .int .i64 0) rfl; have y2 := frozenAt hz 2; have z3 := cellAt hz 3 (v := .string ⟨#[]⟩) rfl; have y3 := frozenAt hz 3; have z4 := cellAt hz 4 (v := .bool false) rfl; have y4 := frozenAt hz 4; go_simp; exact ⟨rfl, (Sep.setBox (cs := #[.string typeError, .int .i64 0, .int .i64 0, .string ⟨#[]⟩, .bool false]) (t := 38) (Sep.setBox (cs := #[.string typeError, .int .i64 0, .int .i64 0, .string ⟨#[]⟩, .bool false]) (t := 38) (Sep.setBox (cs := #[.string typeError, .int .i64 0, .int .i64 0, .string ⟨#[]⟩, .bool false]) (t := 38) (Sep.setBox (cs := #[.string typeError, .int .i64 0, .int .i64 0, .string ⟨#[]⟩, .bool false]) (t := 38) (Sep.setBox (cs := #[.string ⟨#[]⟩, .int .i64 0, .int .i64 0, .string ⟨#[]⟩, .bool false]) (t := 38) hSw 1 rfl 0 (.string typeError)) 1 rfl 1 (.int .i64 0)) 1 rfl 2 (.int .i64 0)) 1 rfl 3 (.string ⟨#[]⟩)) 1 rfl 4 (.bool false))⟩)) (h2 := ?_) (hs := nilS)
        simp only [Act.put, List.setIfInBounds_toArray, List.set_cons_zero, List.set_cons_succ]
        refine doneS (h := fun w10 S => ?_)
        go_wp2_with fail
        go_meet
        exact ⟨_, _, rfl, rfl, S⟩
      exact nilS
    case rest =>
      obtain ⟨qq0_8, qq1_8, rfl, rfl, S⟩ := hcut
      replace S : Sep w (boxR qq0_8 (.cells #[.int .i64 0, .int .i64 0, .string ⟨#[]⟩] 29) :: boxR qq1_8 (.cells #[.string typeError, .int .i64 0, .int .i64 0, .string ⟨#[]⟩, .bool false] 38) :: boxR qq0_7 (.cells #[.int .i64 0, .int .i64 0, .string ⟨#[]⟩] 29) :: boxR qq1_7 (.cells #[.string typeError, .int .i64 0, .int .i64 0, .string ⟨#[]⟩, .bool false] 38) :: boxR qQ1 (.cells #[.int .i64 2, .int .i64 5, .string ⟨#[]⟩, .int .i64 2, .int .i64 6, .string ⟨#[]⟩] 29) :: boxR qL3 (.cells #[.int .i64 4, .int .i64 1, .string ⟨#[]⟩] 29) :: heapR h H1 :: boxR qB1 (.cells #[.int .i64 vb.kind, .int .i64 vb.n, .string vb.s] 29) :: []) wc := by rw [Hb8_8.out] at S; exact S
      clear Hb8_8 Kb8_8 K8_3 K8_5 Cb8_8_0
      obtain ⟨b9_10, hb9_10⟩ : ∃ base, base = boxR qq0_8 (.cells #[.int .i64 0, .int .i64 0, .string ⟨#[]⟩] 29) :: boxR qq1_8 (.cells #[.string typeError, .int .i64 0, .int .i64 0, .string ⟨#[]⟩, .bool false] 38) :: boxR qq0_7 (.cells #[.int .i64 0, .int .i64 0, .string ⟨#[]⟩] 29) :: boxR qq1_7 (.cells #[.string typeError, .int .i64 0, .int .i64 0, .string ⟨#[]⟩, .bool false] 38) :: boxR qQ1 (.cells #[.int .i64 2, .int .i64 5, .string ⟨#[]⟩, .int .i64 2, .int .i64 6, .string ⟨#[]⟩] 29) :: boxR qL3 (.cells #[.int .i64 4, .int .i64 1, .string ⟨#[]⟩] 29) :: heapR h H1 :: boxR qB1 (.cells #[.int .i64 vb.kind, .int .i64 vb.n, .string vb.s] 29) :: [] := ⟨_, rfl⟩
      have Hb9_10 := Lib.hid hb9_10
      have Kb9_10 : Hid (∀ W (Q : List Res), Sep w (Q ++ b9_10) W → True) := Lib.hid fun W Q T => by
        rw [hb9_10] at T
        trivial
      have Cb9_10_0 : Hid (∀ W (Q : List Res), Sep w (Q ++ b9_10) W → W.cell? ⟨qB1, 0, none⟩ = some (.int .i64 vb.kind) ∧ W.cell? ⟨qB1, 1, none⟩ = some (.int .i64 vb.n) ∧ W.cell? ⟨qB1, 2, none⟩ = some (.string vb.s)) := Lib.hid fun W Q T => by
        rw [hb9_10] at T
        have i0 := T.box (b := qB1) (o := .cells #[.int .i64 vb.kind, .int .i64 vb.n, .string vb.s] 29) (Q.length + 7) (by rw [List.getElem?_append_right (by omega), Nat.add_sub_cancel_left]; rfl)
        exact ⟨cellAt i0 0 rfl, cellAt i0 1 rfl, cellAt i0 2 rfl⟩
      have K9_4 : Hid (∀ W (Q : List Res), Sep w (Q ++ b9_10) W → Calls Tryz.prog 23 #[.pointer (some ⟨h, 0, none⟩), .string op, .agg #[.int .i64 vb.kind, .int .i64 vb.n, .string vb.s], .agg #[.int .i64 vb.kind, .int .i64 vb.n, .string vb.s]] W fun e W' => e = .returned (.tuple #[zeroV, excN typeError]) ∧ Sep w (Q ++ b9_10) W') := Lib.hid fun W Q T => by
        rw [Hb9_10.out] at T ⊢
        exact bin_wrong T (Q.length + 6) (by rw [List.getElem?_append_right (by omega), Nat.add_sub_cancel_left]; rfl) op HOP.out vb vb (fun e => absurd e.1 (by rw [HB.out.2.1]; decide)) (fun e => absurd e.1 (by rw [HB.out.2.1]; decide)) (fun e => by rw [HeapM.rowB_no H1 vb (by rw [HB.out.2.1]; decide)] at e; cases e.1) (by rw [HB.out.2.1]; decide) (by rw [HB.out.2.1]; decide) (.inl (HeapM.rowB_no H1 vb (by rw [HB.out.2.1]; decide))) (.inl (HeapM.rowB_no H1 vb (by rw [HB.out.2.1]; decide)))
      replace S := Lib.hid S
      clear hb9_10
      go_upto_region 9 with fail
      have S1 : Sep w ([] ++ b9_10) (wc) := by rw [Hb9_10.out]; exact S.out
      clear S
      refine regionL (E := [emptyR, emptyR]) (base := b9_10) (Sep.putE (Sep.putE S1)) ?_
      clear S1
      refine quietL (hy := fun E Wx hSw => by (go_simp; exact ⟨rfl, hSw⟩)) (h := ?_)
      simp only [Act.put, List.setIfInBounds_toArray, List.set_cons_zero, List.set_cons_succ]
      refine quietL (hy := fun E Wx hSw => by (go_simp; exact ⟨rfl, hSw⟩)) (h := ?_)
      simp only [Act.put, List.setIfInBounds_toArray, List.set_cons_zero, List.set_cons_succ]
      refine quietL (hy := fun E Wx hSw => by ((obtain ⟨u0, u1, u2⟩ := Cb9_10_0.out _ _ hSw); go_simp; exact ⟨rfl, hSw⟩)) (h := ?_)
      simp only [Act.put, List.setIfInBounds_toArray, List.set_cons_zero, List.set_cons_succ]
      refine quietL (hy := fun E Wx hSw => by ((obtain ⟨u0, u1, u2⟩ := Cb9_10_0.out _ _ hSw); go_simp; exact ⟨rfl, hSw⟩)) (h := ?_)
      simp only [Act.put, List.setIfInBounds_toArray, List.set_cons_zero, List.set_cons_succ]
      refine quietL (hy := fun E Wx hSw => by (go_simp; exact symCall (K9_4.out _ _ hSw))) (h := ?_)
      simp only [Act.put, List.setIfInBounds_toArray, List.set_cons_zero, List.set_cons_succ]
      refine quietL (hy := fun E Wx hSw => by (go_simp; exact ⟨rfl, hSw⟩)) (h := ?_)
      simp only [Act.put, List.setIfInBounds_toArray, List.set_cons_zero, List.set_cons_succ]
      refine quietL (hy := fun E Wx hSw => by (go_simp; exact ⟨rfl, hSw⟩)) (h := ?_)
      simp only [Act.put, List.setIfInBounds_toArray, List.set_cons_zero, List.set_cons_succ]
      refine quietL (hy := fun E Wx hSw => by (go_simp; exact ⟨rfl, hSw⟩)) (h := ?_)
      simp only [Act.put, List.setIfInBounds_toArray, List.set_cons_zero, List.set_cons_succ]
      refine allocL 0 rfl (fun q => .pointer (some ⟨q, 0, none⟩)) (.cells #[.int .i64 0, .int .i64 0, .string ⟨#[]⟩] 29) (h1 := fun Wx => by go_simp) (h2 := fun qa91 => ?_)
      simp only [Act.put, List.setIfInBounds_toArray, List.set_cons_zero, List.set_cons_succ]
      try simp only [List.set_cons_zero, List.set_cons_succ]
      refine allocL 1 rfl (fun q => .pointer (some ⟨q, 0, none⟩)) (.cells #[.string ⟨#[]⟩, .int .i64 0, .int .i64 0, .string ⟨#[]⟩, .bool false] 38) (h1 := fun Wx => by go_simp) (h2 := fun qb92 => ?_)
      simp only [Act.put, List.setIfInBounds_toArray, List.set_cons_zero, List.set_cons_succ]
      try simp only [List.set_cons_zero, List.set_cons_succ]
      refine detL undef [boxR qa91 (.cells #[.int .i64 0, .int .i64 0, .string ⟨#[]⟩] 29), boxR qb92 (.cells #[.string ⟨#[]⟩, .int .i64 0, .int .i64 0, .string ⟨#[]⟩, .bool false] 38)] (h1 := fun Wx hSw => by (have hz := hSw.box (b := qa91) (o := .cells #[.int .i64 0, .int .i64 0, .string ⟨#[]⟩] 29) 0 rfl; have z0 := cellAt hz 0 (v := .int .i64 0) rfl; have y0 := frozenAt hz 0; have z1 := cellAt hz 1 (v := .int .i64 0) rfl; have y1 := frozenAt hz 1; have z2 := cellAt hz 2 (v := .string ⟨#[]⟩) rfl; have y2 := frozenAt hz 2; go_simp; exact ⟨rfl, (Sep.setBox (cs := #[.int .i64 0, .int .i64 0, .string ⟨#[]⟩]) (t := 29) (Sep.setBox (cs := #[.int .i64 0, .int .i64 0, .string ⟨#[]⟩]) (t := 29) (Sep.setBox (cs := #[.int .i64 0, .int .i64 0, .string ⟨#[]⟩]) (t := 29) hSw 0 rfl 0 (.int .i64 0)) 0 rfl 1 (.int .i64 0)) 0 rfl 2 (.string ⟨#[]⟩))⟩)) (h2 := ?_)
      simp only [Act.put, List.setIfInBounds_toArray, List.set_cons_zero, List.set_cons_succ]
      refine detL undef [boxR qa91 (.cells #[.int .i64 0, .int .i64 0, .string ⟨#[]⟩] 29), boxR qb92 (.cells #[.string typeError, .int .i64 0, .int .i64 0, .string ⟨#[]⟩, .bool false] 38)] (h1 := fun Wx hSw => by (have hz := hSw.box (b := qb92) (o := .cells #[.string ⟨#[]⟩, .int .i64 0, .int .i64 0, .string ⟨#[]⟩, .bool false] 38) 1 rfl; have z0 := cellAt hz 0 (v := .string ⟨#[]⟩) rfl; have y0 := frozenAt hz 0; have z1 := cellAt hz 1 (v := .int .i64 0) rfl; have y1 := frozenAt hz 1; have z2 := cellAt hz 2 (v := .int .i64 0) rfl; have y2 := frozenAt hz 2; have z3 := cellAt hz 3 (v := .string ⟨#[]⟩) rfl; have y3 := frozenAt hz 3; have z4 := cellAt hz 4 (v := .bool false) rfl; have y4 := frozenAt hz 4; go_simp; exact ⟨rfl, (Sep.setBox (cs := #[.string typeError, .int .i64 0, .int .i64 0, .string ⟨#[]⟩, .bool false]) (t := 38) (Sep.setBox (cs := #[.string typeError, .int .i64 0, .int .i64 0, .string ⟨#[]⟩, .bool false]) (t := 38) (Sep.setBox (cs := #[.string typeError, .int .i64 0, .int .i64 0, .string ⟨#[]⟩, .bool false]) (t := 38) (Sep.setBox (cs := #[.string typeError, .int .i64 0, .int .i64 0, .string ⟨#[]⟩, .bool false]) (t := 38) (Sep.setBox (cs := #[.string ⟨#[]⟩, .int .i64 0, .int .i64 0, .string ⟨#[]⟩, .bool false]) (t := 38) hSw 1 rfl 0 (.string typeError)) 1 rfl 1 (.int .i64 0)) 1 rfl 2 (.int .i64 0)) 1 rfl 3 (.string ⟨#[]⟩)) 1 rfl 4 (.bool false))⟩)) (h2 := ?_)
      simp only [Act.put, List.setIfInBounds_toArray, List.set_cons_zero, List.set_cons_succ]
      intro w12 S
      replace S : Sep w (boxR qa91 (.cells #[.int .i64 0, .int .i64 0, .string ⟨#[]⟩] 29) :: boxR qb92 (.cells #[.string typeError, .int .i64 0, .int .i64 0, .string ⟨#[]⟩, .bool false] 38) :: boxR qq0_8 (.cells #[.int .i64 0, .int .i64 0, .string ⟨#[]⟩] 29) :: boxR qq1_8 (.cells #[.string typeError, .int .i64 0, .int .i64 0, .string ⟨#[]⟩, .bool false] 38) :: boxR qq0_7 (.cells #[.int .i64 0, .int .i64 0, .string ⟨#[]⟩] 29) :: boxR qq1_7 (.cells #[.string typeError, .int .i64 0, .int .i64 0, .string ⟨#[]⟩, .bool false] 38) :: boxR qQ1 (.cells #[.int .i64 2, .int .i64 5, .string ⟨#[]⟩, .int .i64 2, .int .i64 6, .string ⟨#[]⟩] 29) :: boxR qL3 (.cells #[.int .i64 4, .int .i64 1, .string ⟨#[]⟩] 29) :: heapR h H1 :: boxR qB1 (.cells #[.int .i64 vb.kind, .int .i64 vb.n, .string vb.s] 29) :: []) w12 := by rw [Hb9_10.out] at S; exact S
      clear Hb9_10 Kb9_10 K9_4 Cb9_10_0
      obtain ⟨b10_12, hb10_12⟩ : ∃ base, base = boxR qa91 (.cells #[.int .i64 0, .int .i64 0, .string ⟨#[]⟩] 29) :: boxR qb92 (.cells #[.string typeError, .int .i64 0, .int .i64 0, .string ⟨#[]⟩, .bool false] 38) :: boxR qq0_8 (.cells #[.int .i64 0, .int .i64 0, .string ⟨#[]⟩] 29) :: boxR qq1_8 (.cells #[.string typeError, .int .i64 0, .int .i64 0, .string ⟨#[]⟩, .bool false] 38) :: boxR qq0_7 (.cells #[.int .i64 0, .int .i64 0, .string ⟨#[]⟩] 29) :: boxR qq1_7 (.cells #[.string typeError, .int .i64 0, .int .i64 0, .string ⟨#[]⟩, .bool false] 38) :: boxR qQ1 (.cells #[.int .i64 2, .int .i64 5, .string ⟨#[]⟩, .int .i64 2, .int .i64 6, .string ⟨#[]⟩] 29) :: boxR qL3 (.cells #[.int .i64 4, .int .i64 1, .string ⟨#[]⟩] 29) :: heapR h H1 :: boxR qB1 (.cells #[.int .i64 vb.kind, .int .i64 vb.n, .string vb.s] 29) :: [] := ⟨_, rfl⟩
      have Hb10_12 := Lib.hid hb10_12
      have Kb10_12 : Hid (∀ W (Q : List Res), Sep w (Q ++ b10_12) W → True) := Lib.hid fun W Q T => by
        rw [hb10_12] at T
        trivial
      have Cb10_12_0 : Hid (∀ W (Q : List Res), Sep w (Q ++ b10_12) W → W.cell? ⟨qB1, 0, none⟩ = some (.int .i64 vb.kind) ∧ W.cell? ⟨qB1, 1, none⟩ = some (.int .i64 vb.n) ∧ W.cell? ⟨qB1, 2, none⟩ = some (.string vb.s)) := Lib.hid fun W Q T => by
        rw [hb10_12] at T
        have i0 := T.box (b := qB1) (o := .cells #[.int .i64 vb.kind, .int .i64 vb.n, .string vb.s] 29) (Q.length + 9) (by rw [List.getElem?_append_right (by omega), Nat.add_sub_cancel_left]; rfl)
        exact ⟨cellAt i0 0 rfl, cellAt i0 1 rfl, cellAt i0 2 rfl⟩
      have Cb10_12_1 : Hid (∀ W (Q : List Res), Sep w (Q ++ b10_12) W → W.cell? ⟨qL3, 0, none⟩ = some (.int .i64 4) ∧ W.cell? ⟨qL3, 1, none⟩ = some (.int .i64 1) ∧ W.cell? ⟨qL3, 2, none⟩ = some (.string ⟨#[]⟩)) := Lib.hid fun W Q T => by
        rw [hb10_12] at T
        have i0 := T.box (b := qL3) (o := .cells #[.int .i64 4, .int .i64 1, .string ⟨#[]⟩] 29) (Q.length + 7) (by rw [List.getElem?_append_right (by omega), Nat.add_sub_cancel_left]; rfl)
        exact ⟨cellAt i0 0 rfl, cellAt i0 1 rfl, cellAt i0 2 rfl⟩
      have K10_3 : Hid (∀ W (Q : List Res), Sep w (Q ++ b10_12) W → Calls Tryz.prog 23 #[.pointer (some ⟨h, 0, none⟩), .string ⟨#[42]⟩, .agg #[.int .i64 4, .int .i64 1, .string ⟨#[]⟩], .agg #[.int .i64 vb.kind, .int .i64 vb.n, .string vb.s]] W fun e W' => e = .returned (.tuple #[zeroV, excN typeError]) ∧ Sep w (Q ++ b10_12) W') := Lib.hid fun W Q T => by
        rw [Hb10_12.out] at T ⊢
        exact bin_mul T ⟨#[42]⟩ (by decide) vL vb (fun e => absurd e.2 (by rw [HB.out.2.1]; decide)) rfl 0 0 ⟨#[]⟩ typeError (fun Q1 W1 S1 => mul_w1 S1 (Q1.length + (Q.length + 8)) (by rw [List.getElem?_append_right (by omega), show Q1.length + (Q.length + 8) - Q1.length = (Q.length + 8) by omega]; exact (by rw [List.getElem?_append_right (by omega), Nat.add_sub_cancel_left]; rfl)) vL vb (by decide) (by rw [HB.out.2.1]; decide))
      replace S := Lib.hid S
      clear hb10_12
      go_upto_region 10 with fail
      have S1 : Sep w ([] ++ b10_12) (w12) := by rw [Hb10_12.out]; exact S.out
      clear S
      refine regionL (E := [emptyR, emptyR]) (base := b10_12) (Sep.putE (Sep.putE S1)) ?_
      clear S1
      refine quietL (hy := fun E Wx hSw => by (go_simp; exact ⟨rfl, hSw⟩)) (h := ?_)
      simp only [Act.put, List.setIfInBounds_toArray, List.set_cons_zero, List.set_cons_succ]
      refine quietL (hy := fun E Wx hSw => by ((obtain ⟨u0, u1, u2⟩ := Cb10_12_1.out _ _ hSw); go_simp; exact ⟨rfl, hSw⟩)) (h := ?_)
      simp only [Act.put, List.setIfInBounds_toArray, List.set_cons_zero, List.set_cons_succ]
      refine quietL (hy := fun E Wx hSw => by ((obtain ⟨u0, u1, u2⟩ := Cb10_12_0.out _ _ hSw); go_simp; exact ⟨rfl, hSw⟩)) (h := ?_)
      simp only [Act.put, List.setIfInBounds_toArray, List.set_cons_zero, List.set_cons_succ]
      refine quietL (hy := fun E Wx hSw => by (go_simp; exact symCall (K10_3.out _ _ hSw))) (h := ?_)
      simp only [Act.put, List.setIfInBounds_toArray, List.set_cons_zero, List.set_cons_succ]
      refine quietL (hy := fun E Wx hSw => by (go_simp; exact ⟨rfl, hSw⟩)) (h := ?_)
      simp only [Act.put, List.setIfInBounds_toArray, List.set_cons_zero, List.set_cons_succ]
      refine quietL (hy := fun E Wx hSw => by (go_simp; exact ⟨rfl, hSw⟩)) (h := ?_)
      simp only [Act.put, List.setIfInBounds_toArray, List.set_cons_zero, List.set_cons_succ]
      refine quietL (hy := fun E Wx hSw => by (go_simp; exact ⟨rfl, hSw⟩)) (h := ?_)
      simp only [Act.put, List.setIfInBounds_toArray, List.set_cons_zero, List.set_cons_succ]
      refine allocL 0 rfl (fun q => .pointer (some ⟨q, 0, none⟩)) (.cells #[.int .i64 0, .int .i64 0, .string ⟨#[]⟩] 29) (h1 := fun Wx => by go_simp) (h2 := fun qa101 => ?_)
      simp only [Act.put, List.setIfInBounds_toArray, List.set_cons_zero, List.set_cons_succ]
      try simp only [List.set_cons_zero, List.set_cons_succ]
      refine allocL 1 rfl (fun q => .pointer (some ⟨q, 0, none⟩)) (.cells #[.string ⟨#[]⟩, .int .i64 0, .int .i64 0, .string ⟨#[]⟩, .bool false] 38) (h1 := fun Wx => by go_simp) (h2 := fun qb102 => ?_)
      simp only [Act.put, List.setIfInBounds_toArray, List.set_cons_zero, List.set_cons_succ]
      try simp only [List.set_cons_zero, List.set_cons_succ]
      refine detL undef [boxR qa101 (.cells #[.int .i64 0, .int .i64 0, .string ⟨#[]⟩] 29), boxR qb102 (.cells #[.string ⟨#[]⟩, .int .i64 0, .int .i64 0, .string ⟨#[]⟩, .bool false] 38)] (h1 := fun Wx hSw => by (have hz := hSw.box (b := qa101) (o := .cells #[.int .i64 0, .int .i64 0, .string ⟨#[]⟩] 29) 0 rfl; have z0 := cellAt hz 0 (v := .int .i64 0) rfl; have y0 := frozenAt hz 0; have z1 := cellAt hz 1 (v := .int .i64 0) rfl; have y1 := frozenAt hz 1; have z2 := cellAt hz 2 (v := .string ⟨#[]⟩) rfl; have y2 := frozenAt hz 2; go_simp; exact ⟨rfl, (Sep.setBox (cs := #[.int .i64 0, .int .i64 0, .string ⟨#[]⟩]) (t := 29) (Sep.setBox (cs := #[.int .i64 0, .int .i64 0, .string ⟨#[]⟩]) (t := 29) (Sep.setBox (cs := #[.int .i64 0, .int .i64 0, .string ⟨#[]⟩]) (t := 29) hSw 0 rfl 0 (.int .i64 0)) 0 rfl 1 (.int .i64 0)) 0 rfl 2 (.string ⟨#[]⟩))⟩)) (h2 := ?_)
      simp only [Act.put, List.setIfInBounds_toArray, List.set_cons_zero, List.set_cons_succ]
      refine detL undef [boxR qa101 (.cells #[.int .i64 0, .int .i64 0, .string ⟨#[]⟩] 29), boxR qb102 (.cells #[.string typeError, .int .i64 0, .int .i64 0, .string ⟨#[]⟩, .bool false] 38)] (h1 := fun Wx hSw => by (have hz := hSw.box (b := qb102) (o := .cells #[.string ⟨#[]⟩, .int .i64 0, .int .i64 0, .string ⟨#[]⟩, .bool false] 38) 1 rfl; have z0 := cellAt hz 0 (v := .string ⟨#[]⟩) rfl; have y0 := frozenAt hz 0; have z1 := cellAt hz 1 (v := .int .i64 0) rfl; have y1 := frozenAt hz 1; have z2 := cellAt hz 2 (v := .int .i64 0) rfl; have y2 := frozenAt hz 2; have z3 := cellAt hz 3 (v := .string ⟨#[]⟩) rfl; have y3 := frozenAt hz 3; have z4 := cellAt hz 4 (v := .bool false) rfl; have y4 := frozenAt hz 4; go_simp; exact ⟨rfl, (Sep.setBox (cs := #[.string typeError, .int .i64 0, .int .i64 0, .string ⟨#[]⟩, .bool false]) (t := 38) (Sep.setBox (cs := #[.string typeError, .int .i64 0, .int .i64 0, .string ⟨#[]⟩, .bool false]) (t := 38) (Sep.setBox (cs := #[.string typeError, .int .i64 0, .int .i64 0, .string ⟨#[]⟩, .bool false]) (t := 38) (Sep.setBox (cs := #[.string typeError, .int .i64 0, .int .i64 0, .string ⟨#[]⟩, .bool false]) (t := 38) (Sep.setBox (cs := #[.string ⟨#[]⟩, .int .i64 0, .int .i64 0, .string ⟨#[]⟩, .bool false]) (t := 38) hSw 1 rfl 0 (.string typeError)) 1 rfl 1 (.int .i64 0)) 1 rfl 2 (.int .i64 0)) 1 rfl 3 (.string ⟨#[]⟩)) 1 rfl 4 (.bool false))⟩)) (h2 := ?_)
      simp only [Act.put, List.setIfInBounds_toArray, List.set_cons_zero, List.set_cons_succ]
      intro w14 S
      replace S : Sep w (boxR qa101 (.cells #[.int .i64 0, .int .i64 0, .string ⟨#[]⟩] 29) :: boxR qb102 (.cells #[.string typeError, .int .i64 0, .int .i64 0, .string ⟨#[]⟩, .bool false] 38) :: boxR qa91 (.cells #[.int .i64 0, .int .i64 0, .string ⟨#[]⟩] 29) :: boxR qb92 (.cells #[.string typeError, .int .i64 0, .int .i64 0, .string ⟨#[]⟩, .bool false] 38) :: boxR qq0_8 (.cells #[.int .i64 0, .int .i64 0, .string ⟨#[]⟩] 29) :: boxR qq1_8 (.cells #[.string typeError, .int .i64 0, .int .i64 0, .string ⟨#[]⟩, .bool false] 38) :: boxR qq0_7 (.cells #[.int .i64 0, .int .i64 0, .string ⟨#[]⟩] 29) :: boxR qq1_7 (.cells #[.string typeError, .int .i64 0, .int .i64 0, .string ⟨#[]⟩, .bool false] 38) :: boxR qQ1 (.cells #[.int .i64 2, .int .i64 5, .string ⟨#[]⟩, .int .i64 2, .int .i64 6, .string ⟨#[]⟩] 29) :: boxR qL3 (.cells #[.int .i64 4, .int .i64 1, .string ⟨#[]⟩] 29) :: heapR h H1 :: boxR qB1 (.cells #[.int .i64 vb.kind, .int .i64 vb.n, .string vb.s] 29) :: []) w14 := by rw [Hb10_12.out] at S; exact S
      clear Hb10_12 Kb10_12 K10_3 Cb10_12_0 Cb10_12_1
      obtain ⟨b11_14, hb11_14⟩ : ∃ base, base = boxR qa101 (.cells #[.int .i64 0, .int .i64 0, .string ⟨#[]⟩] 29) :: boxR qb102 (.cells #[.string typeError, .int .i64 0, .int .i64 0, .string ⟨#[]⟩, .bool false] 38) :: boxR qa91 (.cells #[.int .i64 0, .int .i64 0, .string ⟨#[]⟩] 29) :: boxR qb92 (.cells #[.string typeError, .int .i64 0, .int .i64 0, .string ⟨#[]⟩, .bool false] 38) :: boxR qq0_8 (.cells #[.int .i64 0, .int .i64 0, .string ⟨#[]⟩] 29) :: boxR qq1_8 (.cells #[.string typeError, .int .i64 0, .int .i64 0, .string ⟨#[]⟩, .bool false] 38) :: boxR qq0_7 (.cells #[.int .i64 0, .int .i64 0, .string ⟨#[]⟩] 29) :: boxR qq1_7 (.cells #[.string typeError, .int .i64 0, .int .i64 0, .string ⟨#[]⟩, .bool false] 38) :: boxR qQ1 (.cells #[.int .i64 2, .int .i64 5, .string ⟨#[]⟩, .int .i64 2, .int .i64 6, .string ⟨#[]⟩] 29) :: boxR qL3 (.cells #[.int .i64 4, .int .i64 1, .string ⟨#[]⟩] 29) :: heapR h H1 :: boxR qB1 (.cells #[.int .i64 vb.kind, .int .i64 vb.n, .string vb.s] 29) :: [] := ⟨_, rfl⟩
      have Hb11_14 := Lib.hid hb11_14
      have Kb11_14 : Hid (∀ W (Q : List Res), Sep w (Q ++ b11_14) W → True) := Lib.hid fun W Q T => by
        rw [hb11_14] at T
        trivial
      have Cb11_14_0 : Hid (∀ W (Q : List Res), Sep w (Q ++ b11_14) W → W.cell? ⟨qB1, 0, none⟩ = some (.int .i64 vb.kind) ∧ W.cell? ⟨qB1, 1, none⟩ = some (.int .i64 vb.n) ∧ W.cell? ⟨qB1, 2, none⟩ = some (.string vb.s)) := Lib.hid fun W Q T => by
        rw [hb11_14] at T
        have i0 := T.box (b := qB1) (o := .cells #[.int .i64 vb.kind, .int .i64 vb.n, .string vb.s] 29) (Q.length + 11) (by rw [List.getElem?_append_right (by omega), Nat.add_sub_cancel_left]; rfl)
        exact ⟨cellAt i0 0 rfl, cellAt i0 1 rfl, cellAt i0 2 rfl⟩
      have Cb11_14_1 : Hid (∀ W (Q : List Res), Sep w (Q ++ b11_14) W → W.cell? ⟨qL3, 0, none⟩ = some (.int .i64 4) ∧ W.cell? ⟨qL3, 1, none⟩ = some (.int .i64 1) ∧ W.cell? ⟨qL3, 2, none⟩ = some (.string ⟨#[]⟩)) := Lib.hid fun W Q T => by
        rw [hb11_14] at T
        have i0 := T.box (b := qL3) (o := .cells #[.int .i64 4, .int .i64 1, .string ⟨#[]⟩] 29) (Q.length + 9) (by rw [List.getElem?_append_right (by omega), Nat.add_sub_cancel_left]; rfl)
        exact ⟨cellAt i0 0 rfl, cellAt i0 1 rfl, cellAt i0 2 rfl⟩
      have K11_3 : Hid (∀ W (Q : List Res), Sep w (Q ++ b11_14) W → Calls Tryz.prog 34 #[.pointer (some ⟨h, 0, none⟩), .agg #[.int .i64 4, .int .i64 1, .string ⟨#[]⟩], .agg #[.int .i64 vb.kind, .int .i64 vb.n, .string vb.s]] W fun e W' => e = .returned (.tuple #[zeroV, excN typeError]) ∧ Sep w (Q ++ b11_14) W') := Lib.hid fun W Q T => by
        rw [Hb11_14.out] at T ⊢
        exact idx_w2 T (Q.length + 10) (by rw [List.getElem?_append_right (by omega), Nat.add_sub_cancel_left]; rfl) vL vb (by decide) rL (by rw [kL]; decide) (by rw [HB.out.2.1]; decide)
      replace S := Lib.hid S
      clear hb11_14
      go_upto_region 11 with fail
      have S1 : Sep w ([] ++ b11_14) (w14) := by rw [Hb11_14.out]; exact S.out
      clear S
      refine regionL (E := [emptyR, emptyR]) (base := b11_14) (Sep.putE (Sep.putE S1)) ?_
      clear S1
      refine quietL (hy := fun E Wx hSw => by (go_simp; exact ⟨rfl, hSw⟩)) (h := ?_)
      simp only [Act.put, List.setIfInBounds_toArray, List.set_cons_zero, List.set_cons_succ]
      refine quietL (hy := fun E Wx hSw => by ((obtain ⟨u0, u1, u2⟩ := Cb11_14_1.out _ _ hSw); go_simp; exact ⟨rfl, hSw⟩)) (h := ?_)
      simp only [Act.put, List.setIfInBounds_toArray, List.set_cons_zero, List.set_cons_succ]
      refine quietL (hy := fun E Wx hSw => by ((obtain ⟨u0, u1, u2⟩ := Cb11_14_0.out _ _ hSw); go_simp; exact ⟨rfl, hSw⟩)) (h := ?_)
      simp only [Act.put, List.setIfInBounds_toArray, List.set_cons_zero, List.set_cons_succ]
      refine quietL (hy := fun E Wx hSw => by (go_simp; exact symCall (K11_3.out _ _ hSw))) (h := ?_)
      simp only [Act.put, List.setIfInBounds_toArray, List.set_cons_zero, List.set_cons_succ]
      refine quietL (hy := fun E Wx hSw => by (go_simp; exact ⟨rfl, hSw⟩)) (h := ?_)
      simp only [Act.put, List.setIfInBounds_toArray, List.set_cons_zero, List.set_cons_succ]
      refine quietL (hy := fun E Wx hSw => by (go_simp; exact ⟨rfl, hSw⟩)) (h := ?_)
      simp only [Act.put, List.setIfInBounds_toArray, List.set_cons_zero, List.set_cons_succ]
      refine quietL (hy := fun E Wx hSw => by (go_simp; exact ⟨rfl, hSw⟩)) (h := ?_)
      simp only [Act.put, List.setIfInBounds_toArray, List.set_cons_zero, List.set_cons_succ]
      refine allocL 0 rfl (fun q => .pointer (some ⟨q, 0, none⟩)) (.cells #[.int .i64 0, .int .i64 0, .string ⟨#[]⟩] 29) (h1 := fun Wx => by go_simp) (h2 := fun qa111 => ?_)
      simp only [Act.put, List.setIfInBounds_toArray, List.set_cons_zero, List.set_cons_succ]
      try simp only [List.set_cons_zero, List.set_cons_succ]
      refine allocL 1 rfl (fun q => .pointer (some ⟨q, 0, none⟩)) (.cells #[.string ⟨#[]⟩, .int .i64 0, .int .i64 0, .string ⟨#[]⟩, .bool false] 38) (h1 := fun Wx => by go_simp) (h2 := fun qb112 => ?_)
      simp only [Act.put, List.setIfInBounds_toArray, List.set_cons_zero, List.set_cons_succ]
      try simp only [List.set_cons_zero, List.set_cons_succ]
      refine detL undef [boxR qa111 (.cells #[.int .i64 0, .int .i64 0, .string ⟨#[]⟩] 29), boxR qb112 (.cells #[.string ⟨#[]⟩, .int .i64 0, .int .i64 0, .string ⟨#[]⟩, .bool false] 38)] (h1 := fun Wx hSw => by (have hz := hSw.box (b := qa111) (o := .cells #[.int .i64 0, .int .i64 0, .string ⟨#[]⟩] 29) 0 rfl; have z0 := cellAt hz 0 (v := .int .i64 0) rfl; have y0 := frozenAt hz 0; have z1 := cellAt hz 1 (v := .int .i64 0) rfl; have y1 := frozenAt hz 1; have z2 := cellAt hz 2 (v := .string ⟨#[]⟩) rfl; have y2 := frozenAt hz 2; go_simp; exact ⟨rfl, (Sep.setBox (cs := #[.int .i64 0, .int .i64 0, .string ⟨#[]⟩]) (t := 29) (Sep.setBox (cs := #[.int .i64 0, .int .i64 0, .string ⟨#[]⟩]) (t := 29) (Sep.setBox (cs := #[.int .i64 0, .int .i64 0, .string ⟨#[]⟩]) (t := 29) hSw 0 rfl 0 (.int .i64 0)) 0 rfl 1 (.int .i64 0)) 0 rfl 2 (.string ⟨#[]⟩))⟩)) (h2 := ?_)
      simp only [Act.put, List.setIfInBounds_toArray, List.set_cons_zero, List.set_cons_succ]
      refine detL undef [boxR qa111 (.cells #[.int .i64 0, .int .i64 0, .string ⟨#[]⟩] 29), boxR qb112 (.cells #[.string typeError, .int .i64 0, .int .i64 0, .string ⟨#[]⟩, .bool false] 38)] (h1 := fun Wx hSw => by (have hz := hSw.box (b := qb112) (o := .cells #[.string ⟨#[]⟩, .int .i64 0, .int .i64 0, .string ⟨#[]⟩, .bool false] 38) 1 rfl; have z0 := cellAt hz 0 (v := .string ⟨#[]⟩) rfl; have y0 := frozenAt hz 0; have z1 := cellAt hz 1 (v := .int .i64 0) rfl; have y1 := frozenAt hz 1; have z2 := cellAt hz 2 (v := .int .i64 0) rfl; have y2 := frozenAt hz 2; have z3 := cellAt hz 3 (v := .string ⟨#[]⟩) rfl; have y3 := frozenAt hz 3; have z4 := cellAt hz 4 (v := .bool false) rfl; have y4 := frozenAt hz 4; go_simp; exact ⟨rfl, (Sep.setBox (cs := #[.string typeError, .int .i64 0, .int .i64 0, .string ⟨#[]⟩, .bool false]) (t := 38) (Sep.setBox (cs := #[.string typeError, .int .i64 0, .int .i64 0, .string ⟨#[]⟩, .bool false]) (t := 38) (Sep.setBox (cs := #[.string typeError, .int .i64 0, .int .i64 0, .string ⟨#[]⟩, .bool false]) (t := 38) (Sep.setBox (cs := #[.string typeError, .int .i64 0, .int .i64 0, .string ⟨#[]⟩, .bool false]) (t := 38) (Sep.setBox (cs := #[.string ⟨#[]⟩, .int .i64 0, .int .i64 0, .string ⟨#[]⟩, .bool false]) (t := 38) hSw 1 rfl 0 (.string typeError)) 1 rfl 1 (.int .i64 0)) 1 rfl 2 (.int .i64 0)) 1 rfl 3 (.string ⟨#[]⟩)) 1 rfl 4 (.bool false))⟩)) (h2 := ?_)
      simp only [Act.put, List.setIfInBounds_toArray, List.set_cons_zero, List.set_cons_succ]
      intro w16 S
      replace S : Sep w (boxR qa111 (.cells #[.int .i64 0, .int .i64 0, .string ⟨#[]⟩] 29) :: boxR qb112 (.cells #[.string typeError, .int .i64 0, .int .i64 0, .string ⟨#[]⟩, .bool false] 38) :: boxR qa101 (.cells #[.int .i64 0, .int .i64 0, .string ⟨#[]⟩] 29) :: boxR qb102 (.cells #[.string typeError, .int .i64 0, .int .i64 0, .string ⟨#[]⟩, .bool false] 38) :: boxR qa91 (.cells #[.int .i64 0, .int .i64 0, .string ⟨#[]⟩] 29) :: boxR qb92 (.cells #[.string typeError, .int .i64 0, .int .i64 0, .string ⟨#[]⟩, .bool false] 38) :: boxR qq0_8 (.cells #[.int .i64 0, .int .i64 0, .string ⟨#[]⟩] 29) :: boxR qq1_8 (.cells #[.string typeError, .int .i64 0, .int .i64 0, .string ⟨#[]⟩, .bool false] 38) :: boxR qq0_7 (.cells #[.int .i64 0, .int .i64 0, .string ⟨#[]⟩] 29) :: boxR qq1_7 (.cells #[.string typeError, .int .i64 0, .int .i64 0, .string ⟨#[]⟩, .bool false] 38) :: boxR qQ1 (.cells #[.int .i64 2, .int .i64 5, .string ⟨#[]⟩, .int .i64 2, .int .i64 6, .string ⟨#[]⟩] 29) :: boxR qL3 (.cells #[.int .i64 4, .int .i64 1, .string ⟨#[]⟩] 29) :: heapR h H1 :: boxR qB1 (.cells #[.int .i64 vb.kind, .int .i64 vb.n, .string vb.s] 29) :: []) w16 := by rw [Hb11_14.out] at S; exact S
      clear Hb11_14 Kb11_14 K11_3 Cb11_14_0 Cb11_14_1
      obtain ⟨b12_16, hb12_16⟩ : ∃ base, base = boxR qa111 (.cells #[.int .i64 0, .int .i64 0, .string ⟨#[]⟩] 29) :: boxR qb112 (.cells #[.string typeError, .int .i64 0, .int .i64 0, .string ⟨#[]⟩, .bool false] 38) :: boxR qa101 (.cells #[.int .i64 0, .int .i64 0, .string ⟨#[]⟩] 29) :: boxR qb102 (.cells #[.string typeError, .int .i64 0, .int .i64 0, .string ⟨#[]⟩, .bool false] 38) :: boxR qa91 (.cells #[.int .i64 0, .int .i64 0, .string ⟨#[]⟩] 29) :: boxR qb92 (.cells #[.string typeError, .int .i64 0, .int .i64 0, .string ⟨#[]⟩, .bool false] 38) :: boxR qq0_8 (.cells #[.int .i64 0, .int .i64 0, .string ⟨#[]⟩] 29) :: boxR qq1_8 (.cells #[.string typeError, .int .i64 0, .int .i64 0, .string ⟨#[]⟩, .bool false] 38) :: boxR qq0_7 (.cells #[.int .i64 0, .int .i64 0, .string ⟨#[]⟩] 29) :: boxR qq1_7 (.cells #[.string typeError, .int .i64 0, .int .i64 0, .string ⟨#[]⟩, .bool false] 38) :: boxR qQ1 (.cells #[.int .i64 2, .int .i64 5, .string ⟨#[]⟩, .int .i64 2, .int .i64 6, .string ⟨#[]⟩] 29) :: boxR qL3 (.cells #[.int .i64 4, .int .i64 1, .string ⟨#[]⟩] 29) :: heapR h H1 :: boxR qB1 (.cells #[.int .i64 vb.kind, .int .i64 vb.n, .string vb.s] 29) :: [] := ⟨_, rfl⟩
      have Hb12_16 := Lib.hid hb12_16
      have Kb12_16 : Hid (∀ W (Q : List Res), Sep w (Q ++ b12_16) W → True) := Lib.hid fun W Q T => by
        rw [hb12_16] at T
        trivial
      have Cb12_16_0 : Hid (∀ W (Q : List Res), Sep w (Q ++ b12_16) W → W.cell? ⟨qB1, 0, none⟩ = some (.int .i64 vb.kind) ∧ W.cell? ⟨qB1, 1, none⟩ = some (.int .i64 vb.n) ∧ W.cell? ⟨qB1, 2, none⟩ = some (.string vb.s)) := Lib.hid fun W Q T => by
        rw [hb12_16] at T
        have i0 := T.box (b := qB1) (o := .cells #[.int .i64 vb.kind, .int .i64 vb.n, .string vb.s] 29) (Q.length + 13) (by rw [List.getElem?_append_right (by omega), Nat.add_sub_cancel_left]; rfl)
        exact ⟨cellAt i0 0 rfl, cellAt i0 1 rfl, cellAt i0 2 rfl⟩
      have K12_2 : Hid (∀ W (Q : List Res), Sep w (Q ++ b12_16) W → Calls Tryz.prog 35 #[.pointer (some ⟨h, 0, none⟩), .agg #[.int .i64 vb.kind, .int .i64 vb.n, .string vb.s]] W fun e W' => e = .returned (.tuple #[zeroV, excN typeError]) ∧ Sep w (Q ++ b12_16) W') := Lib.hid fun W Q T => by
        rw [Hb12_16.out] at T ⊢
        exact neg_wrong T vb (by rw [HB.out.2.1]; decide)
      replace S := Lib.hid S
      clear hb12_16
      go_upto_region 12 with fail
      have S1 : Sep w ([] ++ b12_16) (w16) := by rw [Hb12_16.out]; exact S.out
      clear S
      refine regionL (E := [emptyR, emptyR]) (base := b12_16) (Sep.putE (Sep.putE S1)) ?_
      clear S1
      refine quietL (hy := fun E Wx hSw => by (go_simp; exact ⟨rfl, hSw⟩)) (h := ?_)
      simp only [Act.put, List.setIfInBounds_toArray, List.set_cons_zero, List.set_cons_succ]
      refine quietL (hy := fun E Wx hSw => by ((obtain ⟨u0, u1, u2⟩ := Cb12_16_0.out _ _ hSw); go_simp; exact ⟨rfl, hSw⟩)) (h := ?_)
      simp only [Act.put, List.setIfInBounds_toArray, List.set_cons_zero, List.set_cons_succ]
      refine quietL (hy := fun E Wx hSw => by (go_simp; exact symCall (K12_2.out _ _ hSw))) (h := ?_)
      simp only [Act.put, List.setIfInBounds_toArray, List.set_cons_zero, List.set_cons_succ]
      refine quietL (hy := fun E Wx hSw => by (go_simp; exact ⟨rfl, hSw⟩)) (h := ?_)
      simp only [Act.put, List.setIfInBounds_toArray, List.set_cons_zero, List.set_cons_succ]
      refine quietL (hy := fun E Wx hSw => by (go_simp; exact ⟨rfl, hSw⟩)) (h := ?_)
      simp only [Act.put, List.setIfInBounds_toArray, List.set_cons_zero, List.set_cons_succ]
      refine quietL (hy := fun E Wx hSw => by (go_simp; exact ⟨rfl, hSw⟩)) (h := ?_)
      simp only [Act.put, List.setIfInBounds_toArray, List.set_cons_zero, List.set_cons_succ]
      refine allocL 0 rfl (fun q => .pointer (some ⟨q, 0, none⟩)) (.cells #[.int .i64 0, .int .i64 0, .string ⟨#[]⟩] 29) (h1 := fun Wx => by go_simp) (h2 := fun qa121 => ?_)
      simp only [Act.put, List.setIfInBounds_toArray, List.set_cons_zero, List.set_cons_succ]
      try simp only [List.set_cons_zero, List.set_cons_succ]
      refine allocL 1 rfl (fun q => .pointer (some ⟨q, 0, none⟩)) (.cells #[.string ⟨#[]⟩, .int .i64 0, .int .i64 0, .string ⟨#[]⟩, .bool false] 38) (h1 := fun Wx => by go_simp) (h2 := fun qb122 => ?_)
      simp only [Act.put, List.setIfInBounds_toArray, List.set_cons_zero, List.set_cons_succ]
      try simp only [List.set_cons_zero, List.set_cons_succ]
      refine detL undef [boxR qa121 (.cells #[.int .i64 0, .int .i64 0, .string ⟨#[]⟩] 29), boxR qb122 (.cells #[.string ⟨#[]⟩, .int .i64 0, .int .i64 0, .string ⟨#[]⟩, .bool false] 38)] (h1 := fun Wx hSw => by (have hz := hSw.box (b := qa121) (o := .cells #[.int .i64 0, .int .i64 0, .string ⟨#[]⟩] 29) 0 rfl; have z0 := cellAt hz 0 (v := .int .i64 0) rfl; have y0 := frozenAt hz 0; have z1 := cellAt hz 1 (v := .int .i64 0) rfl; have y1 := frozenAt hz 1; have z2 := cellAt hz 2 (v := .string ⟨#[]⟩) rfl; have y2 := frozenAt hz 2; go_simp; exact ⟨rfl, (Sep.setBox (cs := #[.int .i64 0, .int .i64 0, .string ⟨#[]⟩]) (t := 29) (Sep.setBox (cs := #[.int .i64 0, .int .i64 0, .string ⟨#[]⟩]) (t := 29) (Sep.setBox (cs := #[.int .i64 0, .int .i64 0, .string ⟨#[]⟩]) (t := 29) hSw 0 rfl 0 (.int .i64 0)) 0 rfl 1 (.int .i64 0)) 0 rfl 2 (.string ⟨#[]⟩))⟩)) (h2 := ?_)
      simp only [Act.put, List.setIfInBounds_toArray, List.set_cons_zero, List.set_cons_succ]
      refine detL undef [boxR qa121 (.cells #[.int .i64 0, .int .i64 0, .string ⟨#[]⟩] 29), boxR qb122 (.cells #[.string typeError, .int .i64 0, .int .i64 0, .string ⟨#[]⟩, .bool false] 38)] (h1 := fun Wx hSw => by (have hz := hSw.box (b := qb122) (o := .cells #[.string ⟨#[]⟩, .int .i64 0, .int .i64 0, .string ⟨#[]⟩, .bool false] 38) 1 rfl; have z0 := cellAt hz 0 (v := .string ⟨#[]⟩) rfl; have y0 := frozenAt hz 0; have z1 := cellAt hz 1 (v := .int .i64 0) rfl; have y1 := frozenAt hz 1; have z2 := cellAt hz 2 (v := .int .i64 0) rfl; have y2 := frozenAt hz 2; have z3 := cellAt hz 3 (v := .string ⟨#[]⟩) rfl; have y3 := frozenAt hz 3; have z4 := cellAt hz 4 (v := .bool false) rfl; have y4 := frozenAt hz 4; go_simp; exact ⟨rfl, (Sep.setBox (cs := #[.string typeError, .int .i64 0, .int .i64 0, .string ⟨#[]⟩, .bool false]) (t := 38) (Sep.setBox (cs := #[.string typeError, .int .i64 0, .int .i64 0, .string ⟨#[]⟩, .bool false]) (t := 38) (Sep.setBox (cs := #[.string typeError, .int .i64 0, .int .i64 0, .string ⟨#[]⟩, .bool false]) (t := 38) (Sep.setBox (cs := #[.string typeError, .int .i64 0, .int .i64 0, .string ⟨#[]⟩, .bool false]) (t := 38) (Sep.setBox (cs := #[.string ⟨#[]⟩, .int .i64 0, .int .i64 0, .string ⟨#[]⟩, .bool false]) (t := 38) hSw 1 rfl 0 (.string typeError)) 1 rfl 1 (.int .i64 0)) 1 rfl 2 (.int .i64 0)) 1 rfl 3 (.string ⟨#[]⟩)) 1 rfl 4 (.bool false))⟩)) (h2 := ?_)
      simp only [Act.put, List.setIfInBounds_toArray, List.set_cons_zero, List.set_cons_succ]
      intro w18 S
      replace S : Sep w (boxR qa121 (.cells #[.int .i64 0, .int .i64 0, .string ⟨#[]⟩] 29) :: boxR qb122 (.cells #[.string typeError, .int .i64 0, .int .i64 0, .string ⟨#[]⟩, .bool false] 38) :: boxR qa111 (.cells #[.int .i64 0, .int .i64 0, .string ⟨#[]⟩] 29) :: boxR qb112 (.cells #[.string typeError, .int .i64 0, .int .i64 0, .string ⟨#[]⟩, .bool false] 38) :: boxR qa101 (.cells #[.int .i64 0, .int .i64 0, .string ⟨#[]⟩] 29) :: boxR qb102 (.cells #[.string typeError, .int .i64 0, .int .i64 0, .string ⟨#[]⟩, .bool false] 38) :: boxR qa91 (.cells #[.int .i64 0, .int .i64 0, .string ⟨#[]⟩] 29) :: boxR qb92 (.cells #[.string typeError, .int .i64 0, .int .i64 0, .string ⟨#[]⟩, .bool false] 38) :: boxR qq0_8 (.cells #[.int .i64 0, .int .i64 0, .string ⟨#[]⟩] 29) :: boxR qq1_8 (.cells #[.string typeError, .int .i64 0, .int .i64 0, .string ⟨#[]⟩, .bool false] 38) :: boxR qq0_7 (.cells #[.int .i64 0, .int .i64 0, .string ⟨#[]⟩] 29) :: boxR qq1_7 (.cells #[.string typeError, .int .i64 0, .int .i64 0, .string ⟨#[]⟩, .bool false] 38) :: boxR qQ1 (.cells #[.int .i64 2, .int .i64 5, .string ⟨#[]⟩, .int .i64 2, .int .i64 6, .string ⟨#[]⟩] 29) :: boxR qL3 (.cells #[.int .i64 4, .int .i64 1, .string ⟨#[]⟩] 29) :: heapR h H1 :: boxR qB1 (.cells #[.int .i64 vb.kind, .int .i64 vb.n, .string vb.s] 29) :: []) w18 := by rw [Hb12_16.out] at S; exact S
      clear Hb12_16 Kb12_16 K12_2 Cb12_16_0
      obtain ⟨b13_18, hb13_18⟩ : ∃ base, base = boxR qa121 (.cells #[.int .i64 0, .int .i64 0, .string ⟨#[]⟩] 29) :: boxR qb122 (.cells #[.string typeError, .int .i64 0, .int .i64 0, .string ⟨#[]⟩, .bool false] 38) :: boxR qa111 (.cells #[.int .i64 0, .int .i64 0, .string ⟨#[]⟩] 29) :: boxR qb112 (.cells #[.string typeError, .int .i64 0, .int .i64 0, .string ⟨#[]⟩, .bool false] 38) :: boxR qa101 (.cells #[.int .i64 0, .int .i64 0, .string ⟨#[]⟩] 29) :: boxR qb102 (.cells #[.string typeError, .int .i64 0, .int .i64 0, .string ⟨#[]⟩, .bool false] 38) :: boxR qa91 (.cells #[.int .i64 0, .int .i64 0, .string ⟨#[]⟩] 29) :: boxR qb92 (.cells #[.string typeError, .int .i64 0, .int .i64 0, .string ⟨#[]⟩, .bool false] 38) :: boxR qq0_8 (.cells #[.int .i64 0, .int .i64 0, .string ⟨#[]⟩] 29) :: boxR qq1_8 (.cells #[.string typeError, .int .i64 0, .int .i64 0, .string ⟨#[]⟩, .bool false] 38) :: boxR qq0_7 (.cells #[.int .i64 0, .int .i64 0, .string ⟨#[]⟩] 29) :: boxR qq1_7 (.cells #[.string typeError, .int .i64 0, .int .i64 0, .string ⟨#[]⟩, .bool false] 38) :: boxR qQ1 (.cells #[.int .i64 2, .int .i64 5, .string ⟨#[]⟩, .int .i64 2, .int .i64 6, .string ⟨#[]⟩] 29) :: boxR qL3 (.cells #[.int .i64 4, .int .i64 1, .string ⟨#[]⟩] 29) :: heapR h H1 :: boxR qB1 (.cells #[.int .i64 vb.kind, .int .i64 vb.n, .string vb.s] 29) :: [] := ⟨_, rfl⟩
      have Hb13_18 := Lib.hid hb13_18
      have Kb13_18 : Hid (∀ W (Q : List Res), Sep w (Q ++ b13_18) W → True) := Lib.hid fun W Q T => by
        rw [hb13_18] at T
        trivial
      have Cb13_18_0 : Hid (∀ W (Q : List Res), Sep w (Q ++ b13_18) W → W.cell? ⟨qB1, 0, none⟩ = some (.int .i64 vb.kind) ∧ W.cell? ⟨qB1, 1, none⟩ = some (.int .i64 vb.n) ∧ W.cell? ⟨qB1, 2, none⟩ = some (.string vb.s)) := Lib.hid fun W Q T => by
        rw [hb13_18] at T
        have i0 := T.box (b := qB1) (o := .cells #[.int .i64 vb.kind, .int .i64 vb.n, .string vb.s] 29) (Q.length + 15) (by rw [List.getElem?_append_right (by omega), Nat.add_sub_cancel_left]; rfl)
        exact ⟨cellAt i0 0 rfl, cellAt i0 1 rfl, cellAt i0 2 rfl⟩
      have K13_4 : Hid (∀ W (Q : List Res), Sep w (Q ++ b13_18) W → Calls Tryz.prog 16 #[.int .i64 vb.n] W fun e W' => e = .returned (.agg #[.int .i64 2, .int .i64 vb.n, .string ⟨#[]⟩]) ∧ Sep w (Q ++ b13_18) W') := Lib.hid fun W Q T => by
        exact (lnum_ok W vb.n).mono fun e W' ⟨e1, e2⟩ => ⟨e1, T.later e2⟩
      have K13_5 : Hid (∀ W (Q : List Res), Sep w (Q ++ b13_18) W → Calls Tryz.prog 29 #[.pointer (some ⟨h, 0, none⟩), .agg #[.int .i64 vb.kind, .int .i64 vb.n, .string vb.s], .agg #[.int .i64 2, .int .i64 vb.n, .string ⟨#[]⟩]] W fun e W' => e = .returned (.tuple #[.bool false, excZ]) ∧ Sep w (Q ++ b13_18) W') := Lib.hid fun W Q T => by
        rw [Hb13_18.out] at T ⊢
        exact (by have hh := sameOp_ok good1 (by decide) (Q.length + 14) T (by rw [List.getElem?_append_right (by omega), Nat.add_sub_cancel_left]; rfl) vb (vI vb.n vb.hn); rw [H1.same_no 30 vb (vI vb.n vb.hn) (by rw [HB.out.2.1]; decide) (show ¬ (2 : Int) = 4 by decide), show decide (vb = vI vb.n vb.hn) = false from decide_eq_false (fun e => by have e2 := congrArg V.kind e; rw [HB.out.2.1] at e2; exact absurd (show (1 : Int) = 2 from e2) (by decide))] at hh; exact hh)
      replace S := Lib.hid S
      clear hb13_18
      go_upto_region 13 with fail
      have S1 : Sep w ([] ++ b13_18) (w18) := by rw [Hb13_18.out]; exact S.out
      clear S
      refine regionP 9 3 (E := [emptyR]) (base := b13_18) (Sep.putE S1) ?_
      clear S1
      refine quietP (hy := fun E Wx hSw => by (go_simp; exact ⟨rfl, hSw⟩)) (h := ?_)
      simp only [Act.put, List.setIfInBounds_toArray, List.set_cons_zero, List.set_cons_succ]
      refine quietP (hy := fun E Wx hSw => by ((obtain ⟨u0, u1, u2⟩ := Cb13_18_0.out _ _ hSw); go_simp; exact ⟨rfl, hSw⟩)) (h := ?_)
      simp only [Act.put, List.setIfInBounds_toArray, List.set_cons_zero, List.set_cons_succ]
      refine quietP (hy := fun E Wx hSw => by (go_simp; exact ⟨rfl, hSw⟩)) (h := ?_)
      simp only [Act.put, List.setIfInBounds_toArray, List.set_cons_zero, List.set_cons_succ]
      refine quietP (hy := fun E Wx hSw => by ((obtain ⟨u0, u1, u2⟩ := Cb13_18_0.out _ _ hSw); go_simp; exact ⟨rfl, hSw⟩)) (h := ?_)
      simp only [Act.put, List.setIfInBounds_toArray, List.set_cons_zero, List.set_cons_succ]
      refine quietP (hy := fun E Wx hSw => by (go_simp; exact symCall (K13_4.out _ _ hSw))) (h := ?_)
      simp only [Act.put, List.setIfInBounds_toArray, List.set_cons_zero, List.set_cons_succ]
      refine quietP (hy := fun E Wx hSw => by (go_simp; exact symCall (K13_5.out _ _ hSw))) (h := ?_)
      simp only [Act.put, List.setIfInBounds_toArray, List.set_cons_zero, List.set_cons_succ]
      refine quietP (hy := fun E Wx hSw => by (go_simp; exact ⟨rfl, hSw⟩)) (h := ?_)
      simp only [Act.put, List.setIfInBounds_toArray, List.set_cons_zero, List.set_cons_succ]
      refine quietP (hy := fun E Wx hSw => by (go_simp; exact ⟨rfl, hSw⟩)) (h := ?_)
      simp only [Act.put, List.setIfInBounds_toArray, List.set_cons_zero, List.set_cons_succ]
      refine quietP (hy := fun E Wx hSw => by (go_simp; exact ⟨rfl, hSw⟩)) (h := ?_)
      simp only [Act.put, List.setIfInBounds_toArray, List.set_cons_zero, List.set_cons_succ]
      refine endP ?_
      refine readyS [9] ?_
      refine allocS 0 rfl (fun q => .pointer (some ⟨q, 0, none⟩)) (.cells #[.string ⟨#[]⟩, .int .i64 0, .int .i64 0, .string ⟨#[]⟩, .bool false] 38) (h1 := fun Wx => by go_simp) (h2 := fun qb1 => ?_) (hs := nilS)
      simp only [Act.put, List.setIfInBounds_toArray, List.set_cons_zero, List.set_cons_succ]
      try simp only [List.set_cons_zero, List.set_cons_succ]
      refine quietS 10 (hy := fun E Wx hSw => by (go_simp; exact ⟨rfl, hSw⟩)) (h := ?_)
      simp only [Act.put, List.setIfInBounds_toArray, List.set_cons_zero, List.set_cons_succ]
      refine readyS [11] ?_
      refine detS undef [boxR qb1 (.cells #[.string ⟨#[]⟩, .int .i64 0, .int .i64 0, .string ⟨#[]⟩, .bool false] 38)] (h1 := fun Wx hSw => by (have hz := hSw.box (b := qb1) (o := .cells #[.string ⟨#[]⟩, .int .i64 0, .int .i64 0, .string ⟨#[]⟩, .bool false] 38) 0 rfl; have z0 := cellAt hz 0 (v := .string ⟨#[]⟩) rfl; have y0 := frozenAt hz 0; have z1 := cellAt hz 1 (v := .int .i64 0) rfl; have y1 := frozenAt hz 1; have z2 := cellAt hz 2 (v := .int .i64 0) rfl; have y2 := frozenAt hz 2; have z3 := cellAt hz 3 (v := .string ⟨#[]⟩) rfl; have y3 := frozenAt hz 3; have z4 := cellAt hz 4 (v := .bool false) rfl; have y4 := frozenAt hz 4; go_simp; exact ⟨rfl, (Sep.setBox (cs := #[.string ⟨#[]⟩, .int .i64 0, .int .i64 0, .string ⟨#[]⟩, .bool false]) (t := 38) (Sep.setBox (cs := #[.string ⟨#[]⟩, .int .i64 0, .int .i64 0, .string ⟨#[]⟩, .bool false]) (t := 38) (Sep.setBox (cs := #[.string ⟨#[]⟩, .int .i64 0, .int .i64 0, .string ⟨#[]⟩, .bool false]) (t := 38) (Sep.setBox (cs := #[.string ⟨#[]⟩, .int .i64 0, .int .i64 0, .string ⟨#[]⟩, .bool false]) (t := 38) (Sep.setBox (cs := #[.string ⟨#[]⟩, .int .i64 0, .int .i64 0, .string ⟨#[]⟩, .bool false]) (t := 38) hSw 0 rfl 0 (.string ⟨#[]⟩)) 0 rfl 1 (.int .i64 0)) 0 rfl 2 (.int .i64 0)) 0 rfl 3 (.string ⟨#[]⟩)) 0 rfl 4 (.bool false))⟩)) (h2 := ?_) (hs := nilS)
      simp only [Act.put, List.setIfInBounds_toArray, List.set_cons_zero, List.set_cons_succ]
      refine doneS (h := fun w20 S => ?_)
      replace S : Sep w (boxR qb1 (.cells #[.string ⟨#[]⟩, .int .i64 0, .int .i64 0, .string ⟨#[]⟩, .bool false] 38) :: boxR qa121 (.cells #[.int .i64 0, .int .i64 0, .string ⟨#[]⟩] 29) :: boxR qb122 (.cells #[.string typeError, .int .i64 0, .int .i64 0, .string ⟨#[]⟩, .bool false] 38) :: boxR qa111 (.cells #[.int .i64 0, .int .i64 0, .string ⟨#[]⟩] 29) :: boxR qb112 (.cells #[.string typeError, .int .i64 0, .int .i64 0, .string ⟨#[]⟩, .bool false] 38) :: boxR qa101 (.cells #[.int .i64 0, .int .i64 0, .string ⟨#[]⟩] 29) :: boxR qb102 (.cells #[.string typeError, .int .i64 0, .int .i64 0, .string ⟨#[]⟩, .bool false] 38) :: boxR qa91 (.cells #[.int .i64 0, .int .i64 0, .string ⟨#[]⟩] 29) :: boxR qb92 (.cells #[.string typeError, .int .i64 0, .int .i64 0, .string ⟨#[]⟩, .bool false] 38) :: boxR qq0_8 (.cells #[.int .i64 0, .int .i64 0, .string ⟨#[]⟩] 29) :: boxR qq1_8 (.cells #[.string typeError, .int .i64 0, .int .i64 0, .string ⟨#[]⟩, .bool false] 38) :: boxR qq0_7 (.cells #[.int .i64 0, .int .i64 0, .string ⟨#[]⟩] 29) :: boxR qq1_7 (.cells #[.string typeError, .int .i64 0, .int .i64 0, .string ⟨#[]⟩, .bool false] 38) :: boxR qQ1 (.cells #[.int .i64 2, .int .i64 5, .string ⟨#[]⟩, .int .i64 2, .int .i64 6, .string ⟨#[]⟩] 29) :: boxR qL3 (.cells #[.int .i64 4, .int .i64 1, .string ⟨#[]⟩] 29) :: heapR h H1 :: boxR qB1 (.cells #[.int .i64 vb.kind, .int .i64 vb.n, .string vb.s] 29) :: []) w20 := by rw [Hb13_18.out] at S; exact S
      clear Hb13_18 Kb13_18 K13_4 K13_5 Cb13_18_0
      obtain ⟨nm, hnm⟩ : ∃ s : ByteArray, s = (if is = true then ⟨#[84, 114, 117, 101]⟩ else ⟨#[70, 97, 108, 115, 101]⟩) := ⟨_, rfl⟩
      have HNM : Hid (.tuple #[.string nm, excZ] = reprV (H1.reprM vb)) := Lib.hid (by
        have e : H1.plainL vb = nm.data.toList := by rw [hnm, HVB.out]; cases is <;> rfl
        rw [H1.repr_fits vb (by rw [HB.out.2.1]; decide) (by rw [e, hnm]; cases is <;> decide), e])
      have HNM2 := Lib.hid hnm
      clear hnm
      obtain ⟨b14_20, hb14_20⟩ : ∃ base, base = boxR qb1 (.cells #[.string ⟨#[]⟩, .int .i64 0, .int .i64 0, .string ⟨#[]⟩, .bool false] 38) :: boxR qa121 (.cells #[.int .i64 0, .int .i64 0, .string ⟨#[]⟩] 29) :: boxR qb122 (.cells #[.string typeError, .int .i64 0, .int .i64 0, .string ⟨#[]⟩, .bool false] 38) :: boxR qa111 (.cells #[.int .i64 0, .int .i64 0, .string ⟨#[]⟩] 29) :: boxR qb112 (.cells #[.string typeError, .int .i64 0, .int .i64 0, .string ⟨#[]⟩, .bool false] 38) :: boxR qa101 (.cells #[.int .i64 0, .int .i64 0, .string ⟨#[]⟩] 29) :: boxR qb102 (.cells #[.string typeError, .int .i64 0, .int .i64 0, .string ⟨#[]⟩, .bool false] 38) :: boxR qa91 (.cells #[.int .i64 0, .int .i64 0, .string ⟨#[]⟩] 29) :: boxR qb92 (.cells #[.string typeError, .int .i64 0, .int .i64 0, .string ⟨#[]⟩, .bool false] 38) :: boxR qq0_8 (.cells #[.int .i64 0, .int .i64 0, .string ⟨#[]⟩] 29) :: boxR qq1_8 (.cells #[.string typeError, .int .i64 0, .int .i64 0, .string ⟨#[]⟩, .bool false] 38) :: boxR qq0_7 (.cells #[.int .i64 0, .int .i64 0, .string ⟨#[]⟩] 29) :: boxR qq1_7 (.cells #[.string typeError, .int .i64 0, .int .i64 0, .string ⟨#[]⟩, .bool false] 38) :: boxR qQ1 (.cells #[.int .i64 2, .int .i64 5, .string ⟨#[]⟩, .int .i64 2, .int .i64 6, .string ⟨#[]⟩] 29) :: boxR qL3 (.cells #[.int .i64 4, .int .i64 1, .string ⟨#[]⟩] 29) :: heapR h H1 :: boxR qB1 (.cells #[.int .i64 vb.kind, .int .i64 vb.n, .string vb.s] 29) :: [] := ⟨_, rfl⟩
      have Hb14_20 := Lib.hid hb14_20
      have Kb14_20 : Hid (∀ W (Q : List Res), Sep w (Q ++ b14_20) W → True) := Lib.hid fun W Q T => by
        rw [hb14_20] at T
        trivial
      have Cb14_20_0 : Hid (∀ W (Q : List Res), Sep w (Q ++ b14_20) W → W.cell? ⟨qB1, 0, none⟩ = some (.int .i64 vb.kind) ∧ W.cell? ⟨qB1, 1, none⟩ = some (.int .i64 vb.n) ∧ W.cell? ⟨qB1, 2, none⟩ = some (.string vb.s)) := Lib.hid fun W Q T => by
        rw [hb14_20] at T
        have i0 := T.box (b := qB1) (o := .cells #[.int .i64 vb.kind, .int .i64 vb.n, .string vb.s] 29) (Q.length + 16) (by rw [List.getElem?_append_right (by omega), Nat.add_sub_cancel_left]; rfl)
        exact ⟨cellAt i0 0 rfl, cellAt i0 1 rfl, cellAt i0 2 rfl⟩
      have K14_2 : Hid (∀ W (Q : List Res), Sep w (Q ++ b14_20) W → Calls Tryz.prog 25 #[.pointer (some ⟨h, 0, none⟩), .agg #[.int .i64 vb.kind, .int .i64 vb.n, .string vb.s]] W fun e W' => e = .returned (.tuple #[.string nm, excZ]) ∧ Sep w (Q ++ b14_20) W') := Lib.hid fun W Q T => by
        rw [Hb14_20.out] at T ⊢
        exact repr_one good1 (by decide) T (Q.length + 15) (by rw [List.getElem?_append_right (by omega), Nat.add_sub_cancel_left]; rfl) vb (.inr (.inl HB.out.2.1)) (by rw [HB.out.2.2]; decide) _ HNM.out
      replace S := Lib.hid S
      clear hb14_20
      go_upto_region 14 with fail
      have S1 : Sep w ([] ++ b14_20) (w20) := by rw [Hb14_20.out]; exact S.out
      clear S
      refine regionL (E := [emptyR]) (base := b14_20) (Sep.putE S1) ?_
      clear S1
      refine quietL (hy := fun E Wx hSw => by (go_simp; exact ⟨rfl, hSw⟩)) (h := ?_)
      simp only [Act.put, List.setIfInBounds_toArray, List.set_cons_zero, List.set_cons_succ]
      refine quietL (hy := fun E Wx hSw => by ((obtain ⟨u0, u1, u2⟩ := Cb14_20_0.out _ _ hSw); go_simp; exact ⟨rfl, hSw⟩)) (h := ?_)
      simp only [Act.put, List.setIfInBounds_toArray, List.set_cons_zero, List.set_cons_succ]
      refine quietL (hy := fun E Wx hSw => by (go_simp; exact symCall (K14_2.out _ _ hSw))) (h := ?_)
      simp only [Act.put, List.setIfInBounds_toArray, List.set_cons_zero, List.set_cons_succ]
      refine quietL (hy := fun E Wx hSw => by (go_simp; exact ⟨rfl, hSw⟩)) (h := ?_)
      simp only [Act.put, List.setIfInBounds_toArray, List.set_cons_zero, List.set_cons_succ]
      refine quietL (hy := fun E Wx hSw => by (go_simp; exact ⟨rfl, hSw⟩)) (h := ?_)
      simp only [Act.put, List.setIfInBounds_toArray, List.set_cons_zero, List.set_cons_succ]
      refine quietL (hy := fun E Wx hSw => by (go_simp; exact ⟨rfl, hSw⟩)) (h := ?_)
      simp only [Act.put, List.setIfInBounds_toArray, List.set_cons_zero, List.set_cons_succ]
      refine allocL 0 rfl (fun q => .pointer (some ⟨q, 0, none⟩)) (.cells #[.string ⟨#[]⟩, .int .i64 0, .int .i64 0, .string ⟨#[]⟩, .bool false] 38) (h1 := fun Wx => by go_simp) (h2 := fun qb141 => ?_)
      simp only [Act.put, List.setIfInBounds_toArray, List.set_cons_zero, List.set_cons_succ]
      try simp only [List.set_cons_zero, List.set_cons_succ]
      refine quietL (hy := fun E Wx hSw => by (go_simp; exact ⟨rfl, hSw⟩)) (h := ?_)
      simp only [Act.put, List.setIfInBounds_toArray, List.set_cons_zero, List.set_cons_succ]
      refine detL undef [boxR qb141 (.cells #[.string ⟨#[]⟩, .int .i64 0, .int .i64 0, .string ⟨#[]⟩, .bool false] 38)] (h1 := fun Wx hSw => by (have hz := hSw.box (b := qb141) (o := .cells #[.string ⟨#[]⟩, .int .i64 0, .int .i64 0, .string ⟨#[]⟩, .bool false] 38) 0 rfl; have z0 := cellAt hz 0 (v := .string ⟨#[]⟩) rfl; have y0 := frozenAt hz 0; have z1 := cellAt hz 1 (v := .int .i64 0) rfl; have y1 := frozenAt hz 1; have z2 := cellAt hz 2 (v := .int .i64 0) rfl; have y2 := frozenAt hz 2; have z3 := cellAt hz 3 (v := .string ⟨#[]⟩) rfl; have y3 := frozenAt hz 3; have z4 := cellAt hz 4 (v := .bool false) rfl; have y4 := frozenAt hz 4; go_simp; exact ⟨rfl, (Sep.setBox (cs := #[.string ⟨#[]⟩, .int .i64 0, .int .i64 0, .string ⟨#[]⟩, .bool false]) (t := 38) (Sep.setBox (cs := #[.string ⟨#[]⟩, .int .i64 0, .int .i64 0, .string ⟨#[]⟩, .bool false]) (t := 38) (Sep.setBox (cs := #[.string ⟨#[]⟩, .int .i64 0, .int .i64 0, .string ⟨#[]⟩, .bool false]) (t := 38) (Sep.setBox (cs := #[.string ⟨#[]⟩, .int .i64 0, .int .i64 0, .string ⟨#[]⟩, .bool false]) (t := 38) (Sep.setBox (cs := #[.string ⟨#[]⟩, .int .i64 0, .int .i64 0, .string ⟨#[]⟩, .bool false]) (t := 38) hSw 0 rfl 0 (.string ⟨#[]⟩)) 0 rfl 1 (.int .i64 0)) 0 rfl 2 (.int .i64 0)) 0 rfl 3 (.string ⟨#[]⟩)) 0 rfl 4 (.bool false))⟩)) (h2 := ?_)
      simp only [Act.put, List.setIfInBounds_toArray, List.set_cons_zero, List.set_cons_succ]
      intro w22 S
      replace S : Sep w (boxR qb141 (.cells #[.string ⟨#[]⟩, .int .i64 0, .int .i64 0, .string ⟨#[]⟩, .bool false] 38) :: boxR qb1 (.cells #[.string ⟨#[]⟩, .int .i64 0, .int .i64 0, .string ⟨#[]⟩, .bool false] 38) :: boxR qa121 (.cells #[.int .i64 0, .int .i64 0, .string ⟨#[]⟩] 29) :: boxR qb122 (.cells #[.string typeError, .int .i64 0, .int .i64 0, .string ⟨#[]⟩, .bool false] 38) :: boxR qa111 (.cells #[.int .i64 0, .int .i64 0, .string ⟨#[]⟩] 29) :: boxR qb112 (.cells #[.string typeError, .int .i64 0, .int .i64 0, .string ⟨#[]⟩, .bool false] 38) :: boxR qa101 (.cells #[.int .i64 0, .int .i64 0, .string ⟨#[]⟩] 29) :: boxR qb102 (.cells #[.string typeError, .int .i64 0, .int .i64 0, .string ⟨#[]⟩, .bool false] 38) :: boxR qa91 (.cells #[.int .i64 0, .int .i64 0, .string ⟨#[]⟩] 29) :: boxR qb92 (.cells #[.string typeError, .int .i64 0, .int .i64 0, .string ⟨#[]⟩, .bool false] 38) :: boxR qq0_8 (.cells #[.int .i64 0, .int .i64 0, .string ⟨#[]⟩] 29) :: boxR qq1_8 (.cells #[.string typeError, .int .i64 0, .int .i64 0, .string ⟨#[]⟩, .bool false] 38) :: boxR qq0_7 (.cells #[.int .i64 0, .int .i64 0, .string ⟨#[]⟩] 29) :: boxR qq1_7 (.cells #[.string typeError, .int .i64 0, .int .i64 0, .string ⟨#[]⟩, .bool false] 38) :: boxR qQ1 (.cells #[.int .i64 2, .int .i64 5, .string ⟨#[]⟩, .int .i64 2, .int .i64 6, .string ⟨#[]⟩] 29) :: boxR qL3 (.cells #[.int .i64 4, .int .i64 1, .string ⟨#[]⟩] 29) :: heapR h H1 :: boxR qB1 (.cells #[.int .i64 vb.kind, .int .i64 vb.n, .string vb.s] 29) :: []) w22 := by rw [Hb14_20.out] at S; exact S
      clear Hb14_20 Kb14_20 K14_2 Cb14_20_0
      obtain ⟨b15_22, hb15_22⟩ : ∃ base, base = boxR qb141 (.cells #[.string ⟨#[]⟩, .int .i64 0, .int .i64 0, .string ⟨#[]⟩, .bool false] 38) :: boxR qb1 (.cells #[.string ⟨#[]⟩, .int .i64 0, .int .i64 0, .string ⟨#[]⟩, .bool false] 38) :: boxR qa121 (.cells #[.int .i64 0, .int .i64 0, .string ⟨#[]⟩] 29) :: boxR qb122 (.cells #[.string typeError, .int .i64 0, .int .i64 0, .string ⟨#[]⟩, .bool false] 38) :: boxR qa111 (.cells #[.int .i64 0, .int .i64 0, .string ⟨#[]⟩] 29) :: boxR qb112 (.cells #[.string typeError, .int .i64 0, .int .i64 0, .string ⟨#[]⟩, .bool false] 38) :: boxR qa101 (.cells #[.int .i64 0, .int .i64 0, .string ⟨#[]⟩] 29) :: boxR qb102 (.cells #[.string typeError, .int .i64 0, .int .i64 0, .string ⟨#[]⟩, .bool false] 38) :: boxR qa91 (.cells #[.int .i64 0, .int .i64 0, .string ⟨#[]⟩] 29) :: boxR qb92 (.cells #[.string typeError, .int .i64 0, .int .i64 0, .string ⟨#[]⟩, .bool false] 38) :: boxR qq0_8 (.cells #[.int .i64 0, .int .i64 0, .string ⟨#[]⟩] 29) :: boxR qq1_8 (.cells #[.string typeError, .int .i64 0, .int .i64 0, .string ⟨#[]⟩, .bool false] 38) :: boxR qq0_7 (.cells #[.int .i64 0, .int .i64 0, .string ⟨#[]⟩] 29) :: boxR qq1_7 (.cells #[.string typeError, .int .i64 0, .int .i64 0, .string ⟨#[]⟩, .bool false] 38) :: boxR qQ1 (.cells #[.int .i64 2, .int .i64 5, .string ⟨#[]⟩, .int .i64 2, .int .i64 6, .string ⟨#[]⟩] 29) :: boxR qL3 (.cells #[.int .i64 4, .int .i64 1, .string ⟨#[]⟩] 29) :: heapR h H1 :: boxR qB1 (.cells #[.int .i64 vb.kind, .int .i64 vb.n, .string vb.s] 29) :: [] := ⟨_, rfl⟩
      have Hb15_22 := Lib.hid hb15_22
      have Kb15_22 : Hid (∀ W (Q : List Res), Sep w (Q ++ b15_22) W → True) := Lib.hid fun W Q T => by
        rw [hb15_22] at T
        trivial
      have K15_1 : Hid (∀ W (Q : List Res), Sep w (Q ++ b15_22) W → Calls Tryz.prog 17 #[.string ⟨#[120]⟩] W fun e W' => e = .returned (.agg #[.int .i64 3, .int .i64 0, .string ⟨#[120]⟩]) ∧ Sep w (Q ++ b15_22) W') := Lib.hid fun W Q T => by
        exact (lstr_ok W ⟨#[120]⟩).mono fun e W' ⟨e1, e2⟩ => ⟨e1, T.later e2⟩
      have K15_2 : Hid (∀ W (Q : List Res), Sep w (Q ++ b15_22) W → Calls Tryz.prog 36 #[.pointer (some ⟨h, 0, none⟩), .agg #[.int .i64 3, .int .i64 0, .string ⟨#[120]⟩]] W fun e W' => e = .returned (.tuple #[.string ⟨#[120]⟩, excZ]) ∧ Sep w (Q ++ b15_22) W') := Lib.hid fun W Q T => by
        rw [Hb15_22.out] at T ⊢
        exact str_ok T ⟨#[120]⟩ 0
      replace S := Lib.hid S
      clear hb15_22
      go_upto_region 15 with fail
      have S1 : Sep w ([] ++ b15_22) (w22) := by rw [Hb15_22.out]; exact S.out
      clear S
      refine regionL (E := [emptyR]) (base := b15_22) (Sep.putE S1) ?_
      clear S1
      refine quietL (hy := fun E Wx hSw => by (go_simp; exact ⟨rfl, hSw⟩)) (h := ?_)
      simp only [Act.put, List.setIfInBounds_toArray, List.set_cons_zero, List.set_cons_succ]
      refine quietL (hy := fun E Wx hSw => by (go_simp; exact symCall (K15_1.out _ _ hSw))) (h := ?_)
      simp only [Act.put, List.setIfInBounds_toArray, List.set_cons_zero, List.set_cons_succ]
      refine quietL (hy := fun E Wx hSw => by (go_simp; exact symCall (K15_2.out _ _ hSw))) (h := ?_)
      simp only [Act.put, List.setIfInBounds_toArray, List.set_cons_zero, List.set_cons_succ]
      refine quietL (hy := fun E Wx hSw => by (go_simp; exact ⟨rfl, hSw⟩)) (h := ?_)
      simp only [Act.put, List.setIfInBounds_toArray, List.set_cons_zero, List.set_cons_succ]
      refine quietL (hy := fun E Wx hSw => by (go_simp; exact ⟨rfl, hSw⟩)) (h := ?_)
      simp only [Act.put, List.setIfInBounds_toArray, List.set_cons_zero, List.set_cons_succ]
      refine quietL (hy := fun E Wx hSw => by (go_simp; exact ⟨rfl, hSw⟩)) (h := ?_)
      simp only [Act.put, List.setIfInBounds_toArray, List.set_cons_zero, List.set_cons_succ]
      refine allocL 0 rfl (fun q => .pointer (some ⟨q, 0, none⟩)) (.cells #[.string ⟨#[]⟩, .int .i64 0, .int .i64 0, .string ⟨#[]⟩, .bool false] 38) (h1 := fun Wx => by go_simp) (h2 := fun qb151 => ?_)
      simp only [Act.put, List.setIfInBounds_toArray, List.set_cons_zero, List.set_cons_succ]
      try simp only [List.set_cons_zero, List.set_cons_succ]
      refine quietL (hy := fun E Wx hSw => by (go_simp; exact ⟨rfl, hSw⟩)) (h := ?_)
      simp only [Act.put, List.setIfInBounds_toArray, List.set_cons_zero, List.set_cons_succ]
      refine detL undef [boxR qb151 (.cells #[.string ⟨#[]⟩, .int .i64 0, .int .i64 0, .string ⟨#[]⟩, .bool false] 38)] (h1 := fun Wx hSw => by (have hz := hSw.box (b := qb151) (o := .cells #[.string ⟨#[]⟩, .int .i64 0, .int .i64 0, .string ⟨#[]⟩, .bool false] 38) 0 rfl; have z0 := cellAt hz 0 (v := .string ⟨#[]⟩) rfl; have y0 := frozenAt hz 0; have z1 := cellAt hz 1 (v := .int .i64 0) rfl; have y1 := frozenAt hz 1; have z2 := cellAt hz 2 (v := .int .i64 0) rfl; have y2 := frozenAt hz 2; have z3 := cellAt hz 3 (v := .string ⟨#[]⟩) rfl; have y3 := frozenAt hz 3; have z4 := cellAt hz 4 (v := .bool false) rfl; have y4 := frozenAt hz 4; go_simp; exact ⟨rfl, (Sep.setBox (cs := #[.string ⟨#[]⟩, .int .i64 0, .int .i64 0, .string ⟨#[]⟩, .bool false]) (t := 38) (Sep.setBox (cs := #[.string ⟨#[]⟩, .int .i64 0, .int .i64 0, .string ⟨#[]⟩, .bool false]) (t := 38) (Sep.setBox (cs := #[.string ⟨#[]⟩, .int .i64 0, .int .i64 0, .string ⟨#[]⟩, .bool false]) (t := 38) (Sep.setBox (cs := #[.string ⟨#[]⟩, .int .i64 0, .int .i64 0, .string ⟨#[]⟩, .bool false]) (t := 38) (Sep.setBox (cs := #[.string ⟨#[]⟩, .int .i64 0, .int .i64 0, .string ⟨#[]⟩, .bool false]) (t := 38) hSw 0 rfl 0 (.string ⟨#[]⟩)) 0 rfl 1 (.int .i64 0)) 0 rfl 2 (.int .i64 0)) 0 rfl 3 (.string ⟨#[]⟩)) 0 rfl 4 (.bool false))⟩)) (h2 := ?_)
      simp only [Act.put, List.setIfInBounds_toArray, List.set_cons_zero, List.set_cons_succ]
      intro w24 S
      replace S : Sep w (boxR qb151 (.cells #[.string ⟨#[]⟩, .int .i64 0, .int .i64 0, .string ⟨#[]⟩, .bool false] 38) :: boxR qb141 (.cells #[.string ⟨#[]⟩, .int .i64 0, .int .i64 0, .string ⟨#[]⟩, .bool false] 38) :: boxR qb1 (.cells #[.string ⟨#[]⟩, .int .i64 0, .int .i64 0, .string ⟨#[]⟩, .bool false] 38) :: boxR qa121 (.cells #[.int .i64 0, .int .i64 0, .string ⟨#[]⟩] 29) :: boxR qb122 (.cells #[.string typeError, .int .i64 0, .int .i64 0, .string ⟨#[]⟩, .bool false] 38) :: boxR qa111 (.cells #[.int .i64 0, .int .i64 0, .string ⟨#[]⟩] 29) :: boxR qb112 (.cells #[.string typeError, .int .i64 0, .int .i64 0, .string ⟨#[]⟩, .bool false] 38) :: boxR qa101 (.cells #[.int .i64 0, .int .i64 0, .string ⟨#[]⟩] 29) :: boxR qb102 (.cells #[.string typeError, .int .i64 0, .int .i64 0, .string ⟨#[]⟩, .bool false] 38) :: boxR qa91 (.cells #[.int .i64 0, .int .i64 0, .string ⟨#[]⟩] 29) :: boxR qb92 (.cells #[.string typeError, .int .i64 0, .int .i64 0, .string ⟨#[]⟩, .bool false] 38) :: boxR qq0_8 (.cells #[.int .i64 0, .int .i64 0, .string ⟨#[]⟩] 29) :: boxR qq1_8 (.cells #[.string typeError, .int .i64 0, .int .i64 0, .string ⟨#[]⟩, .bool false] 38) :: boxR qq0_7 (.cells #[.int .i64 0, .int .i64 0, .string ⟨#[]⟩] 29) :: boxR qq1_7 (.cells #[.string typeError, .int .i64 0, .int .i64 0, .string ⟨#[]⟩, .bool false] 38) :: boxR qQ1 (.cells #[.int .i64 2, .int .i64 5, .string ⟨#[]⟩, .int .i64 2, .int .i64 6, .string ⟨#[]⟩] 29) :: boxR qL3 (.cells #[.int .i64 4, .int .i64 1, .string ⟨#[]⟩] 29) :: heapR h H1 :: boxR qB1 (.cells #[.int .i64 vb.kind, .int .i64 vb.n, .string vb.s] 29) :: []) w24 := by rw [Hb15_22.out] at S; exact S
      clear Hb15_22 Kb15_22 K15_1 K15_2
      obtain ⟨b16_24, hb16_24⟩ : ∃ base, base = boxR qb151 (.cells #[.string ⟨#[]⟩, .int .i64 0, .int .i64 0, .string ⟨#[]⟩, .bool false] 38) :: boxR qb141 (.cells #[.string ⟨#[]⟩, .int .i64 0, .int .i64 0, .string ⟨#[]⟩, .bool false] 38) :: boxR qb1 (.cells #[.string ⟨#[]⟩, .int .i64 0, .int .i64 0, .string ⟨#[]⟩, .bool false] 38) :: boxR qa121 (.cells #[.int .i64 0, .int .i64 0, .string ⟨#[]⟩] 29) :: boxR qb122 (.cells #[.string typeError, .int .i64 0, .int .i64 0, .string ⟨#[]⟩, .bool false] 38) :: boxR qa111 (.cells #[.int .i64 0, .int .i64 0, .string ⟨#[]⟩] 29) :: boxR qb112 (.cells #[.string typeError, .int .i64 0, .int .i64 0, .string ⟨#[]⟩, .bool false] 38) :: boxR qa101 (.cells #[.int .i64 0, .int .i64 0, .string ⟨#[]⟩] 29) :: boxR qb102 (.cells #[.string typeError, .int .i64 0, .int .i64 0, .string ⟨#[]⟩, .bool false] 38) :: boxR qa91 (.cells #[.int .i64 0, .int .i64 0, .string ⟨#[]⟩] 29) :: boxR qb92 (.cells #[.string typeError, .int .i64 0, .int .i64 0, .string ⟨#[]⟩, .bool false] 38) :: boxR qq0_8 (.cells #[.int .i64 0, .int .i64 0, .string ⟨#[]⟩] 29) :: boxR qq1_8 (.cells #[.string typeError, .int .i64 0, .int .i64 0, .string ⟨#[]⟩, .bool false] 38) :: boxR qq0_7 (.cells #[.int .i64 0, .int .i64 0, .string ⟨#[]⟩] 29) :: boxR qq1_7 (.cells #[.string typeError, .int .i64 0, .int .i64 0, .string ⟨#[]⟩, .bool false] 38) :: boxR qQ1 (.cells #[.int .i64 2, .int .i64 5, .string ⟨#[]⟩, .int .i64 2, .int .i64 6, .string ⟨#[]⟩] 29) :: boxR qL3 (.cells #[.int .i64 4, .int .i64 1, .string ⟨#[]⟩] 29) :: heapR h H1 :: boxR qB1 (.cells #[.int .i64 vb.kind, .int .i64 vb.n, .string vb.s] 29) :: [] := ⟨_, rfl⟩
      have Hb16_24 := Lib.hid hb16_24
      have Kb16_24 : Hid (∀ W (Q : List Res), Sep w (Q ++ b16_24) W → True) := Lib.hid fun W Q T => by
        rw [hb16_24] at T
        trivial
      have K16_1 : Hid (∀ W (Q : List Res), Sep w (Q ++ b16_24) W → Calls Tryz.prog 17 #[.string ⟨#[120]⟩] W fun e W' => e = .returned (.agg #[.int .i64 3, .int .i64 0, .string ⟨#[120]⟩]) ∧ Sep w (Q ++ b16_24) W') := Lib.hid fun W Q T => by
        exact (lstr_ok W ⟨#[120]⟩).mono fun e W' ⟨e1, e2⟩ => ⟨e1, T.later e2⟩
      have K16_2 : Hid (∀ W (Q : List Res), Sep w (Q ++ b16_24) W → Calls Tryz.prog 25 #[.pointer (some ⟨h, 0, none⟩), .agg #[.int .i64 3, .int .i64 0, .string ⟨#[120]⟩]] W fun e W' => e = .returned (.tuple #[.string ⟨#[39, 120, 39]⟩, excZ]) ∧ Sep w (Q ++ b16_24) W') := Lib.hid fun W Q T => by
        rw [Hb16_24.out] at T ⊢
        exact repr_one good1 (by decide) T (Q.length + 17) (by rw [List.getElem?_append_right (by omega), Nat.add_sub_cancel_left]; rfl) (vS ⟨#[120]⟩ (by decide)) (.inr (.inr (.inr rfl))) (by decide) _ (by rw [H1.repr_fits _ (by decide) (by decide)]; rfl)
      replace S := Lib.hid S
      clear hb16_24
      go_upto_region 16 with fail
      have S1 : Sep w ([] ++ b16_24) (w24) := by rw [Hb16_24.out]; exact S.out
      clear S
      refine regionL (E := [emptyR]) (base := b16_24) (Sep.putE S1) ?_
      clear S1
      refine quietL (hy := fun E Wx hSw => by (go_simp; exact ⟨rfl, hSw⟩)) (h := ?_)
      simp only [Act.put, List.setIfInBounds_toArray, List.set_cons_zero, List.set_cons_succ]
      refine quietL (hy := fun E Wx hSw => by (go_simp; exact symCall (K16_1.out _ _ hSw))) (h := ?_)
      simp only [Act.put, List.setIfInBounds_toArray, List.set_cons_zero, List.set_cons_succ]
      refine quietL (hy := fun E Wx hSw => by (go_simp; exact symCall (K16_2.out _ _ hSw))) (h := ?_)
      simp only [Act.put, List.setIfInBounds_toArray, List.set_cons_zero, List.set_cons_succ]
      refine quietL (hy := fun E Wx hSw => by (go_simp; exact ⟨rfl, hSw⟩)) (h := ?_)
      simp only [Act.put, List.setIfInBounds_toArray, List.set_cons_zero, List.set_cons_succ]
      refine quietL (hy := fun E Wx hSw => by (go_simp; exact ⟨rfl, hSw⟩)) (h := ?_)
      simp only [Act.put, List.setIfInBounds_toArray, List.set_cons_zero, List.set_cons_succ]
      refine quietL (hy := fun E Wx hSw => by (go_simp; exact ⟨rfl, hSw⟩)) (h := ?_)
      simp only [Act.put, List.setIfInBounds_toArray, List.set_cons_zero, List.set_cons_succ]
      refine allocL 0 rfl (fun q => .pointer (some ⟨q, 0, none⟩)) (.cells #[.string ⟨#[]⟩, .int .i64 0, .int .i64 0, .string ⟨#[]⟩, .bool false] 38) (h1 := fun Wx => by go_simp) (h2 := fun qb161 => ?_)
      simp only [Act.put, List.setIfInBounds_toArray, List.set_cons_zero, List.set_cons_succ]
      try simp only [List.set_cons_zero, List.set_cons_succ]
      refine quietL (hy := fun E Wx hSw => by (go_simp; exact ⟨rfl, hSw⟩)) (h := ?_)
      simp only [Act.put, List.setIfInBounds_toArray, List.set_cons_zero, List.set_cons_succ]
      refine detL undef [boxR qb161 (.cells #[.string ⟨#[]⟩, .int .i64 0, .int .i64 0, .string ⟨#[]⟩, .bool false] 38)] (h1 := fun Wx hSw => by (have hz := hSw.box (b := qb161) (o := .cells #[.string ⟨#[]⟩, .int .i64 0, .int .i64 0, .string ⟨#[]⟩, .bool false] 38) 0 rfl; have z0 := cellAt hz 0 (v := .string ⟨#[]⟩) rfl; have y0 := frozenAt hz 0; have z1 := cellAt hz 1 (v := .int .i64 0) rfl; have y1 := frozenAt hz 1; have z2 := cellAt hz 2 (v := .int .i64 0) rfl; have y2 := frozenAt hz 2; have z3 := cellAt hz 3 (v := .string ⟨#[]⟩) rfl; have y3 := frozenAt hz 3; have z4 := cellAt hz 4 (v := .bool false) rfl; have y4 := frozenAt hz 4; go_simp; exact ⟨rfl, (Sep.setBox (cs := #[.string ⟨#[]⟩, .int .i64 0, .int .i64 0, .string ⟨#[]⟩, .bool false]) (t := 38) (Sep.setBox (cs := #[.string ⟨#[]⟩, .int .i64 0, .int .i64 0, .string ⟨#[]⟩, .bool false]) (t := 38) (Sep.setBox (cs := #[.string ⟨#[]⟩, .int .i64 0, .int .i64 0, .string ⟨#[]⟩, .bool false]) (t := 38) (Sep.setBox (cs := #[.string ⟨#[]⟩, .int .i64 0, .int .i64 0, .string ⟨#[]⟩, .bool false]) (t := 38) (Sep.setBox (cs := #[.string ⟨#[]⟩, .int .i64 0, .int .i64 0, .string ⟨#[]⟩, .bool false]) (t := 38) hSw 0 rfl 0 (.string ⟨#[]⟩)) 0 rfl 1 (.int .i64 0)) 0 rfl 2 (.int .i64 0)) 0 rfl 3 (.string ⟨#[]⟩)) 0 rfl 4 (.bool false))⟩)) (h2 := ?_)
      simp only [Act.put, List.setIfInBounds_toArray, List.set_cons_zero, List.set_cons_succ]
      intro w26 S
      replace S : Sep w (boxR qb161 (.cells #[.string ⟨#[]⟩, .int .i64 0, .int .i64 0, .string ⟨#[]⟩, .bool false] 38) :: boxR qb151 (.cells #[.string ⟨#[]⟩, .int .i64 0, .int .i64 0, .string ⟨#[]⟩, .bool false] 38) :: boxR qb141 (.cells #[.string ⟨#[]⟩, .int .i64 0, .int .i64 0, .string ⟨#[]⟩, .bool false] 38) :: boxR qb1 (.cells #[.string ⟨#[]⟩, .int .i64 0, .int .i64 0, .string ⟨#[]⟩, .bool false] 38) :: boxR qa121 (.cells #[.int .i64 0, .int .i64 0, .string ⟨#[]⟩] 29) :: boxR qb122 (.cells #[.string typeError, .int .i64 0, .int .i64 0, .string ⟨#[]⟩, .bool false] 38) :: boxR qa111 (.cells #[.int .i64 0, .int .i64 0, .string ⟨#[]⟩] 29) :: boxR qb112 (.cells #[.string typeError, .int .i64 0, .int .i64 0, .string ⟨#[]⟩, .bool false] 38) :: boxR qa101 (.cells #[.int .i64 0, .int .i64 0, .string ⟨#[]⟩] 29) :: boxR qb102 (.cells #[.string typeError, .int .i64 0, .int .i64 0, .string ⟨#[]⟩, .bool false] 38) :: boxR qa91 (.cells #[.int .i64 0, .int .i64 0, .string ⟨#[]⟩] 29) :: boxR qb92 (.cells #[.string typeError, .int .i64 0, .int .i64 0, .string ⟨#[]⟩, .bool false] 38) :: boxR qq0_8 (.cells #[.int .i64 0, .int .i64 0, .string ⟨#[]⟩] 29) :: boxR qq1_8 (.cells #[.string typeError, .int .i64 0, .int .i64 0, .string ⟨#[]⟩, .bool false] 38) :: boxR qq0_7 (.cells #[.int .i64 0, .int .i64 0, .string ⟨#[]⟩] 29) :: boxR qq1_7 (.cells #[.string typeError, .int .i64 0, .int .i64 0, .string ⟨#[]⟩, .bool false] 38) :: boxR qQ1 (.cells #[.int .i64 2, .int .i64 5, .string ⟨#[]⟩, .int .i64 2, .int .i64 6, .string ⟨#[]⟩] 29) :: boxR qL3 (.cells #[.int .i64 4, .int .i64 1, .string ⟨#[]⟩] 29) :: heapR h H1 :: boxR qB1 (.cells #[.int .i64 vb.kind, .int .i64 vb.n, .string vb.s] 29) :: []) w26 := by rw [Hb16_24.out] at S; exact S
      clear Hb16_24 Kb16_24 K16_1 K16_2
      replace S := Lib.hid S
      cases is
      case false =>
        have hnb : vb.n = 0 := by rw [HVB.out]; rfl
        have HVN := Lib.hid hnb
        clear hnb
        have hnm := HNM2.out
        simp only [Bool.false_eq_true, if_false] at hnm
        subst hnm
        clear HNM HNM2
        replace S := S.out
        obtain ⟨b20_200, hb20_200⟩ : ∃ base, base = boxR qb161 (.cells #[.string ⟨#[]⟩, .int .i64 0, .int .i64 0, .string ⟨#[]⟩, .bool false] 38) :: boxR qb151 (.cells #[.string ⟨#[]⟩, .int .i64 0, .int .i64 0, .string ⟨#[]⟩, .bool false] 38) :: boxR qb141 (.cells #[.string ⟨#[]⟩, .int .i64 0, .int .i64 0, .string ⟨#[]⟩, .bool false] 38) :: boxR qb1 (.cells #[.string ⟨#[]⟩, .int .i64 0, .int .i64 0, .string ⟨#[]⟩, .bool false] 38) :: boxR qa121 (.cells #[.int .i64 0, .int .i64 0, .string ⟨#[]⟩] 29) :: boxR qb122 (.cells #[.string typeError, .int .i64 0, .int .i64 0, .string ⟨#[]⟩, .bool false] 38) :: boxR qa111 (.cells #[.int .i64 0, .int .i64 0, .string ⟨#[]⟩] 29) :: boxR qb112 (.cells #[.string typeError, .int .i64 0, .int .i64 0, .string ⟨#[]⟩, .bool false] 38) :: boxR qa101 (.cells #[.int .i64 0, .int .i64 0, .string ⟨#[]⟩] 29) :: boxR qb102 (.cells #[.string typeError, .int .i64 0, .int .i64 0, .string ⟨#[]⟩, .bool false] 38) :: boxR qa91 (.cells #[.int .i64 0, .int .i64 0, .string ⟨#[]⟩] 29) :: boxR qb92 (.cells #[.string typeError, .int .i64 0, .int .i64 0, .string ⟨#[]⟩, .bool false] 38) :: boxR qq0_8 (.cells #[.int .i64 0, .int .i64 0, .string ⟨#[]⟩] 29) :: boxR qq1_8 (.cells #[.string typeError, .int .i64 0, .int .i64 0, .string ⟨#[]⟩, .bool false] 38) :: boxR qq0_7 (.cells #[.int .i64 0, .int .i64 0, .string ⟨#[]⟩] 29) :: boxR qq1_7 (.cells #[.string typeError, .int .i64 0, .int .i64 0, .string ⟨#[]⟩, .bool false] 38) :: boxR qQ1 (.cells #[.int .i64 2, .int .i64 5, .string ⟨#[]⟩, .int .i64 2, .int .i64 6, .string ⟨#[]⟩] 29) :: boxR qL3 (.cells #[.int .i64 4, .int .i64 1, .string ⟨#[]⟩] 29) :: heapR h H1 :: boxR qB1 (.cells #[.int .i64 vb.kind, .int .i64 vb.n, .string vb.s] 29) :: [] := ⟨_, rfl⟩
        have Hb20_200 := Lib.hid hb20_200
        have Kb20_200 : Hid (∀ W (Q : List Res), Sep w (Q ++ b20_200) W → True) := Lib.hid fun W Q T => by
          rw [hb20_200] at T
          trivial
        have Cb20_200_0 : Hid (∀ W (Q : List Res), Sep w (Q ++ b20_200) W → W.cell? ⟨qB1, 0, none⟩ = some (.int .i64 vb.kind) ∧ W.cell? ⟨qB1, 1, none⟩ = some (.int .i64 vb.n) ∧ W.cell? ⟨qB1, 2, none⟩ = some (.string vb.s)) := Lib.hid fun W Q T => by
          rw [hb20_200] at T
          have i0 := T.box (b := qB1) (o := .cells #[.int .i64 vb.kind, .int .i64 vb.n, .string vb.s] 29) (Q.length + 19) (by rw [List.getElem?_append_right (by omega), Nat.add_sub_cancel_left]; rfl)
          exact ⟨cellAt i0 0 rfl, cellAt i0 1 rfl, cellAt i0 2 rfl⟩
        have Cb20_200_1 : Hid (∀ W (Q : List Res), Sep w (Q ++ b20_200) W → W.cell? ⟨qb1, 0, none⟩ = some (.string ⟨#[]⟩) ∧ W.cell? ⟨qb1, 1, none⟩ = some (.int .i64 0) ∧ W.cell? ⟨qb1, 2, none⟩ = some (.int .i64 0) ∧ W.cell? ⟨qb1, 3, none⟩ = some (.string ⟨#[]⟩) ∧ W.cell? ⟨qb1, 4, none⟩ = some (.bool false)) := Lib.hid fun W Q T => by
          rw [hb20_200] at T
          have i0 := T.box (b := qb1) (o := .cells #[.string ⟨#[]⟩, .int .i64 0, .int .i64 0, .string ⟨#[]⟩, .bool false] 38) (Q.length + 3) (by rw [List.getElem?_append_right (by omega), Nat.add_sub_cancel_left]; rfl)
          exact ⟨cellAt i0 0 rfl, cellAt i0 1 rfl, cellAt i0 2 rfl, cellAt i0 3 rfl, cellAt i0 4 rfl⟩
        have Cb20_200_2 : Hid (∀ W (Q : List Res), Sep w (Q ++ b20_200) W → W.cell? ⟨qb102, 0, none⟩ = some (.string typeError) ∧ W.cell? ⟨qb102, 1, none⟩ = some (.int .i64 0) ∧ W.cell? ⟨qb102, 2, none⟩ = some (.int .i64 0) ∧ W.cell? ⟨qb102, 3, none⟩ = some (.string ⟨#[]⟩) ∧ W.cell? ⟨qb102, 4, none⟩ = some (.bool false)) := Lib.hid fun W Q T => by
          rw [hb20_200] at T
          have i0 := T.box (b := qb102) (o := .cells #[.string typeError, .int .i64 0, .int .i64 0, .string ⟨#[]⟩, .bool false] 38) (Q.length + 9) (by rw [List.getElem?_append_right (by omega), Nat.add_sub_cancel_left]; rfl)
          exact ⟨cellAt i0 0 rfl, cellAt i0 1 rfl, cellAt i0 2 rfl, cellAt i0 3 rfl, cellAt i0 4 rfl⟩
        have Cb20_200_3 : Hid (∀ W (Q : List Res), Sep w (Q ++ b20_200) W → W.cell? ⟨qb112, 0, none⟩ = some (.string typeError) ∧ W.cell? ⟨qb112, 1, none⟩ = some (.int .i64 0) ∧ W.cell? ⟨qb112, 2, none⟩ = some (.int .i64 0) ∧ W.cell? ⟨qb112, 3, none⟩ = some (.string ⟨#[]⟩) ∧ W.cell? ⟨qb112, 4, none⟩ = some (.bool false)) := Lib.hid fun W Q T => by
          rw [hb20_200] at T
          have i0 := T.box (b := qb112) (o := .cells #[.string typeError, .int .i64 0, .int .i64 0, .string ⟨#[]⟩, .bool false] 38) (Q.length + 7) (by rw [List.getElem?_append_right (by omega), Nat.add_sub_cancel_left]; rfl)
          exact ⟨cellAt i0 0 rfl, cellAt i0 1 rfl, cellAt i0 2 rfl, cellAt i0 3 rfl, cellAt i0 4 rfl⟩
        have Cb20_200_4 : Hid (∀ W (Q : List Res), Sep w (Q ++ b20_200) W → W.cell? ⟨qb122, 0, none⟩ = some (.string typeError) ∧ W.cell? ⟨qb122, 1, none⟩ = some (.int .i64 0) ∧ W.cell? ⟨qb122, 2, none⟩ = some (.int .i64 0) ∧ W.cell? ⟨qb122, 3, none⟩ = some (.string ⟨#[]⟩) ∧ W.cell? ⟨qb122, 4, none⟩ = some (.bool false)) := Lib.hid fun W Q T => by
          rw [hb20_200] at T
          have i0 := T.box (b := qb122) (o := .cells #[.string typeError, .int .i64 0, .int .i64 0, .string ⟨#[]⟩, .bool false] 38) (Q.length + 5) (by rw [List.getElem?_append_right (by omega), Nat.add_sub_cancel_left]; rfl)
          exact ⟨cellAt i0 0 rfl, cellAt i0 1 rfl, cellAt i0 2 rfl, cellAt i0 3 rfl, cellAt i0 4 rfl⟩
        have Cb20_200_5 : Hid (∀ W (Q : List Res), Sep w (Q ++ b20_200) W → W.cell? ⟨qb141, 0, none⟩ = some (.string ⟨#[]⟩) ∧ W.cell? ⟨qb141, 1, none⟩ = some (.int .i64 0) ∧ W.cell? ⟨qb141, 2, none⟩ = some (.int .i64 0) ∧ W.cell? ⟨qb141, 3, none⟩ = some (.string ⟨#[]⟩) ∧ W.cell? ⟨qb141, 4, none⟩ = some (.bool false)) := Lib.hid fun W Q T => by
          rw [hb20_200] at T
          have i0 := T.box (b := qb141) (o := .cells #[.string ⟨#[]⟩, .int .i64 0, .int .i64 0, .string ⟨#[]⟩, .bool false] 38) (Q.length + 2) (by rw [List.getElem?_append_right (by omega), Nat.add_sub_cancel_left]; rfl)
          exact ⟨cellAt i0 0 rfl, cellAt i0 1 rfl, cellAt i0 2 rfl, cellAt i0 3 rfl, cellAt i0 4 rfl⟩
        have Cb20_200_6 : Hid (∀ W (Q : List Res), Sep w (Q ++ b20_200) W → W.cell? ⟨qb151, 0, none⟩ = some (.string ⟨#[]⟩) ∧ W.cell? ⟨qb151, 1, none⟩ = some (.int .i64 0) ∧ W.cell? ⟨qb151, 2, none⟩ = some (.int .i64 0) ∧ W.cell? ⟨qb151, 3, none⟩ = some (.string ⟨#[]⟩) ∧ W.cell? ⟨qb151, 4, none⟩ = some (.bool false)) := Lib.hid fun W Q T => by
          rw [hb20_200] at T
          have i0 := T.box (b := qb151) (o := .cells #[.string ⟨#[]⟩, .int .i64 0, .int .i64 0, .string ⟨#[]⟩, .bool false] 38) (Q.length + 1) (by rw [List.getElem?_append_right (by omega), Nat.add_sub_cancel_left]; rfl)
          exact ⟨cellAt i0 0 rfl, cellAt i0 1 rfl, cellAt i0 2 rfl, cellAt i0 3 rfl, cellAt i0 4 rfl⟩
        have Cb20_200_7 : Hid (∀ W (Q : List Res), Sep w (Q ++ b20_200) W → W.cell? ⟨qb161, 0, none⟩ = some (.string ⟨#[]⟩) ∧ W.cell? ⟨qb161, 1, none⟩ = some (.int .i64 0) ∧ W.cell? ⟨qb161, 2, none⟩ = some (.int .i64 0) ∧ W.cell? ⟨qb161, 3, none⟩ = some (.string ⟨#[]⟩) ∧ W.cell? ⟨qb161, 4, none⟩ = some (.bool false)) := Lib.hid fun W Q T => by
          rw [hb20_200] at T
          have i0 := T.box (b := qb161) (o := .cells #[.string ⟨#[]⟩, .int .i64 0, .int .i64 0, .string ⟨#[]⟩, .bool false] 38) (Q.length + 0) (by rw [List.getElem?_append_right (by omega), Nat.add_sub_cancel_left]; rfl)
          exact ⟨cellAt i0 0 rfl, cellAt i0 1 rfl, cellAt i0 2 rfl, cellAt i0 3 rfl, cellAt i0 4 rfl⟩
        have Cb20_200_8 : Hid (∀ W (Q : List Res), Sep w (Q ++ b20_200) W → W.cell? ⟨qb92, 0, none⟩ = some (.string typeError) ∧ W.cell? ⟨qb92, 1, none⟩ = some (.int .i64 0) ∧ W.cell? ⟨qb92, 2, none⟩ = some (.int .i64 0) ∧ W.cell? ⟨qb92, 3, none⟩ = some (.string ⟨#[]⟩) ∧ W.cell? ⟨qb92, 4, none⟩ = some (.bool false)) := Lib.hid fun W Q T => by
          rw [hb20_200] at T
          have i0 := T.box (b := qb92) (o := .cells #[.string typeError, .int .i64 0, .int .i64 0, .string ⟨#[]⟩, .bool false] 38) (Q.length + 11) (by rw [List.getElem?_append_right (by omega), Nat.add_sub_cancel_left]; rfl)
          exact ⟨cellAt i0 0 rfl, cellAt i0 1 rfl, cellAt i0 2 rfl, cellAt i0 3 rfl, cellAt i0 4 rfl⟩
        have Cb20_200_9 : Hid (∀ W (Q : List Res), Sep w (Q ++ b20_200) W → W.cell? ⟨qq1_7, 0, none⟩ = some (.string typeError) ∧ W.cell? ⟨qq1_7, 1, none⟩ = some (.int .i64 0) ∧ W.cell? ⟨qq1_7, 2, none⟩ = some (.int .i64 0) ∧ W.cell? ⟨qq1_7, 3, none⟩ = some (.string ⟨#[]⟩) ∧ W.cell? ⟨qq1_7, 4, none⟩ = some (.bool false)) := Lib.hid fun W Q T => by
          rw [hb20_200] at T
          have i0 := T.box (b := qq1_7) (o := .cells #[.string typeError, .int .i64 0, .int .i64 0, .string ⟨#[]⟩, .bool false] 38) (Q.length + 15) (by rw [List.getElem?_append_right (by omega), Nat.add_sub_cancel_left]; rfl)
          exact ⟨cellAt i0 0 rfl, cellAt i0 1 rfl, cellAt i0 2 rfl, cellAt i0 3 rfl, cellAt i0 4 rfl⟩
        have Cb20_200_10 : Hid (∀ W (Q : List Res), Sep w (Q ++ b20_200) W → W.cell? ⟨qq1_8, 0, none⟩ = some (.string typeError) ∧ W.cell? ⟨qq1_8, 1, none⟩ = some (.int .i64 0) ∧ W.cell? ⟨qq1_8, 2, none⟩ = some (.int .i64 0) ∧ W.cell? ⟨qq1_8, 3, none⟩ = some (.string ⟨#[]⟩) ∧ W.cell? ⟨qq1_8, 4, none⟩ = some (.bool false)) := Lib.hid fun W Q T => by
          rw [hb20_200] at T
          have i0 := T.box (b := qq1_8) (o := .cells #[.string typeError, .int .i64 0, .int .i64 0, .string ⟨#[]⟩, .bool false] 38) (Q.length + 13) (by rw [List.getElem?_append_right (by omega), Nat.add_sub_cancel_left]; rfl)
          exact ⟨cellAt i0 0 rfl, cellAt i0 1 rfl, cellAt i0 2 rfl, cellAt i0 3 rfl, cellAt i0 4 rfl⟩
        have K20_1 : Hid (∀ W (Q : List Res), Sep w (Q ++ b20_200) W → Calls Tryz.prog 21 #[excN typeError, .string typeError] W fun e W' => e = .returned (.bool true) ∧ Sep w (Q ++ b20_200) W') := Lib.hid fun W Q T => by
          exact (raised_type W).mono fun e W' ⟨e1, e2⟩ => ⟨e1, T.later e2⟩
        have K20_4 : Hid (∀ W (Q : List Res), Sep w (Q ++ b20_200) W → Calls Tryz.prog 21 #[excN typeError, .string typeError] W fun e W' => e = .returned (.bool true) ∧ Sep w (Q ++ b20_200) W') := Lib.hid fun W Q T => by
          exact (raised_type W).mono fun e W' ⟨e1, e2⟩ => ⟨e1, T.later e2⟩
        have K20_8 : Hid (∀ W (Q : List Res), Sep w (Q ++ b20_200) W → Calls Tryz.prog 21 #[excN typeError, .string typeError] W fun e W' => e = .returned (.bool true) ∧ Sep w (Q ++ b20_200) W') := Lib.hid fun W Q T => by
          exact (raised_type W).mono fun e W' ⟨e1, e2⟩ => ⟨e1, T.later e2⟩
        have K20_12 : Hid (∀ W (Q : List Res), Sep w (Q ++ b20_200) W → Calls Tryz.prog 21 #[excN typeError, .string typeError] W fun e W' => e = .returned (.bool true) ∧ Sep w (Q ++ b20_200) W') := Lib.hid fun W Q T => by
          exact (raised_type W).mono fun e W' ⟨e1, e2⟩ => ⟨e1, T.later e2⟩
        have K20_16 : Hid (∀ W (Q : List Res), Sep w (Q ++ b20_200) W → Calls Tryz.prog 21 #[excN typeError, .string typeError] W fun e W' => e = .returned (.bool true) ∧ Sep w (Q ++ b20_200) W') := Lib.hid fun W Q T => by
          exact (raised_type W).mono fun e W' ⟨e1, e2⟩ => ⟨e1, T.later e2⟩
        have K20_20 : Hid (∀ W (Q : List Res), Sep w (Q ++ b20_200) W → Calls Tryz.prog 21 #[excN typeError, .string typeError] W fun e W' => e = .returned (.bool true) ∧ Sep w (Q ++ b20_200) W') := Lib.hid fun W Q T => by
          exact (raised_type W).mono fun e W' ⟨e1, e2⟩ => ⟨e1, T.later e2⟩
        have K20_28 : Hid (∀ W (Q : List Res), Sep w (Q ++ b20_200) W → Calls Tryz.prog 19 #[excZ] W fun e W' => e = .returned (.bool true) ∧ Sep w (Q ++ b20_200) W') := Lib.hid fun W Q T => by
          exact (none_z W).mono fun e W' ⟨e1, e2⟩ => ⟨e1, T.later e2⟩
        have K20_37 : Hid (∀ W (Q : List Res), Sep w (Q ++ b20_200) W → Calls Tryz.prog 19 #[excZ] W fun e W' => e = .returned (.bool true) ∧ Sep w (Q ++ b20_200) W') := Lib.hid fun W Q T => by
          exact (none_z W).mono fun e W' ⟨e1, e2⟩ => ⟨e1, T.later e2⟩
        have K20_45 : Hid (∀ W (Q : List Res), Sep w (Q ++ b20_200) W → Calls Tryz.prog 19 #[excZ] W fun e W' => e = .returned (.bool true) ∧ Sep w (Q ++ b20_200) W') := Lib.hid fun W Q T => by
          exact (none_z W).mono fun e W' ⟨e1, e2⟩ => ⟨e1, T.later e2⟩
        have K20_53 : Hid (∀ W (Q : List Res), Sep w (Q ++ b20_200) W → Calls Tryz.prog 19 #[excZ] W fun e W' => e = .returned (.bool true) ∧ Sep w (Q ++ b20_200) W') := Lib.hid fun W Q T => by
          exact (none_z W).mono fun e W' ⟨e1, e2⟩ => ⟨e1, T.later e2⟩
        have K20_58 : Hid (∀ W (Q : List Res), Sep w (Q ++ b20_200) W → Calls Tryz.prog 37 #[.pointer (some ⟨h, 0, none⟩), .agg #[.int .i64 vb.kind, .int .i64 vb.n, .string vb.s]] W fun e W' => e = .returned (.bool false) ∧ Sep w (Q ++ b20_200) W') := Lib.hid fun W Q T => by
          rw [Hb20_200.out] at T ⊢
          exact (by have hh := truth_bool (h := h) T vb HB.out.2.1; rw [show (vb.n != 0) = false by rw [HVN.out]; rfl] at hh; exact hh)
        have K20_65 : Hid (∀ W (Q : List Res), Sep w (Q ++ b20_200) W → Calls Tryz.prog 16 #[.int .i64 n] W fun e W' => e = .returned (.agg #[.int .i64 2, .int .i64 n, .string ⟨#[]⟩]) ∧ Sep w (Q ++ b20_200) W') := Lib.hid fun W Q T => by
          exact (lnum_ok W n).mono fun e W' ⟨e1, e2⟩ => ⟨e1, T.later e2⟩
        have K20_66 : Hid (∀ W (Q : List Res), Sep w (Q ++ b20_200) W → Calls Tryz.prog 37 #[.pointer (some ⟨h, 0, none⟩), .agg #[.int .i64 2, .int .i64 n, .string ⟨#[]⟩]] W fun e W' => e = .returned (.bool (n != 0)) ∧ Sep w (Q ++ b20_200) W') := Lib.hid fun W Q T => by
          rw [Hb20_200.out] at T ⊢
          exact truth_int (h := h) T (vI n HN.out) rfl
        replace S := Lib.hid S
        clear hb20_200
        go_upto_region 20 with fail
        have S1 : Sep w ([] ++ b20_200) (w26) := by rw [Hb20_200.out]; exact S.out
        clear S
        try simp only [List.append_eq, List.cons_append, List.nil_append]
        refine regionL (E := []) (base := b20_200) S1 ?_
        clear S1
        refine quietL (hy := fun E Wx hSw => by ((obtain ⟨u0, u1, u2, u3, u4⟩ := Cb20_200_9.out _ _ hSw); go_simp; exact ⟨rfl, hSw⟩)) (h := ?_)
        simp only [Act.put, List.setIfInBounds_toArray, List.set_cons_zero, List.set_cons_succ]
        refine quietL (hy := fun E Wx hSw => by (go_simp; exact symCall (K20_1.out _ _ hSw))) (h := ?_)
        simp only [Act.put, List.setIfInBounds_toArray, List.set_cons_zero, List.set_cons_succ]
        refine quietL (hy := fun E Wx hSw => by (go_simp; exact ⟨rfl, hSw⟩)) (h := ?_)
        simp only [Act.put, List.setIfInBounds_toArray, List.set_cons_zero, List.set_cons_succ]
        refine quietL (hy := fun E Wx hSw => by ((obtain ⟨u0, u1, u2, u3, u4⟩ := Cb20_200_10.out _ _ hSw); go_simp; exact ⟨rfl, hSw⟩)) (h := ?_)
        simp only [Act.put, List.setIfInBounds_toArray, List.set_cons_zero, List.set_cons_succ]
        refine quietL (hy := fun E Wx hSw => by (go_simp; exact symCall (K20_4.out _ _ hSw))) (h := ?_)
        simp only [Act.put, List.setIfInBounds_toArray, List.set_cons_zero, List.set_cons_succ]
        refine quietL (hy := fun E Wx hSw => by (go_simp; exact ⟨rfl, hSw⟩)) (h := ?_)
        simp only [Act.put, List.setIfInBounds_toArray, List.set_cons_zero, List.set_cons_succ]
        refine quietL (hy := fun E Wx hSw => by (go_simp; exact ⟨rfl, hSw⟩)) (h := ?_)
        simp only [Act.put, List.setIfInBounds_toArray, List.set_cons_zero, List.set_cons_succ]
        refine quietL (hy := fun E Wx hSw => by ((obtain ⟨u0, u1, u2, u3, u4⟩ := Cb20_200_8.out _ _ hSw); go_simp; exact ⟨rfl, hSw⟩)) (h := ?_)
        simp only [Act.put, List.setIfInBounds_toArray, List.set_cons_zero, List.set_cons_succ]
        refine quietL (hy := fun E Wx hSw => by (go_simp; exact symCall (K20_8.out _ _ hSw))) (h := ?_)
        simp only [Act.put, List.setIfInBounds_toArray, List.set_cons_zero, List.set_cons_succ]
        refine quietL (hy := fun E Wx hSw => by (go_simp; exact ⟨rfl, hSw⟩)) (h := ?_)
        simp only [Act.put, List.setIfInBounds_toArray, List.set_cons_zero, List.set_cons_succ]
        refine quietL (hy := fun E Wx hSw => by (go_simp; exact ⟨rfl, hSw⟩)) (h := ?_)
        simp only [Act.put, List.setIfInBounds_toArray, List.set_cons_zero, List.set_cons_succ]
        refine quietL (hy := fun E Wx hSw => by ((obtain ⟨u0, u1, u2, u3, u4⟩ := Cb20_200_2.out _ _ hSw); go_simp; exact ⟨rfl, hSw⟩)) (h := ?_)
        simp only [Act.put, List.setIfInBounds_toArray, List.set_cons_zero, List.set_cons_succ]
        refine quietL (hy := fun E Wx hSw => by (go_simp; exact symCall (K20_12.out _ _ hSw))) (h := ?_)
        simp only [Act.put, List.setIfInBounds_toArray, List.set_cons_zero, List.set_cons_succ]
        refine quietL (hy := fun E Wx hSw => by (go_simp; exact ⟨rfl, hSw⟩)) (h := ?_)
        simp only [Act.put, List.setIfInBounds_toArray, List.set_cons_zero, List.set_cons_succ]
        refine quietL (hy := fun E Wx hSw => by (go_simp; exact ⟨rfl, hSw⟩)) (h := ?_)
        simp only [Act.put, List.setIfInBounds_toArray, List.set_cons_zero, List.set_cons_succ]
        refine quietL (hy := fun E Wx hSw => by ((obtain ⟨u0, u1, u2, u3, u4⟩ := Cb20_200_3.out _ _ hSw); go_simp; exact ⟨rfl, hSw⟩)) (h := ?_)
        simp only [Act.put, List.setIfInBounds_toArray, List.set_cons_zero, List.set_cons_succ]
        refine quietL (hy := fun E Wx hSw => by (go_simp; exact symCall (K20_16.out _ _ hSw))) (h := ?_)
        simp only [Act.put, List.setIfInBounds_toArray, List.set_cons_zero, List.set_cons_succ]
        refine quietL (hy := fun E Wx hSw => by (go_simp; exact ⟨rfl, hSw⟩)) (h := ?_)
        simp only [Act.put, List.setIfInBounds_toArray, List.set_cons_zero, List.set_cons_succ]
        refine quietL (hy := fun E Wx hSw => by (go_simp; exact ⟨rfl, hSw⟩)) (h := ?_)
        simp only [Act.put, List.setIfInBounds_toArray, List.set_cons_zero, List.set_cons_succ]
        refine quietL (hy := fun E Wx hSw => by ((obtain ⟨u0, u1, u2, u3, u4⟩ := Cb20_200_4.out _ _ hSw); go_simp; exact ⟨rfl, hSw⟩)) (h := ?_)
        simp only [Act.put, List.setIfInBounds_toArray, List.set_cons_zero, List.set_cons_succ]
        refine quietL (hy := fun E Wx hSw => by (go_simp; exact symCall (K20_20.out _ _ hSw))) (h := ?_)
        simp only [Act.put, List.setIfInBounds_toArray, List.set_cons_zero, List.set_cons_succ]
        refine quietL (hy := fun E Wx hSw => by (go_simp; exact ⟨rfl, hSw⟩)) (h := ?_)
        simp only [Act.put, List.setIfInBounds_toArray, List.set_cons_zero, List.set_cons_succ]
        refine quietL (hy := fun E Wx hSw => by (go_simp; exact ⟨rfl, hSw⟩)) (h := ?_)
        simp only [Act.put, List.setIfInBounds_toArray, List.set_cons_zero, List.set_cons_succ]
        refine quietL (hy := fun E Wx hSw => by (go_simp; exact ⟨rfl, hSw⟩)) (h := ?_)
        simp only [Act.put, List.setIfInBounds_toArray, List.set_cons_zero, List.set_cons_succ]
        refine quietL (hy := fun E Wx hSw => by (go_simp; exact ⟨rfl, hSw⟩)) (h := ?_)
        simp only [Act.put, List.setIfInBounds_toArray, List.set_cons_zero, List.set_cons_succ]
        refine quietL (hy := fun E Wx hSw => by (go_simp; exact ⟨rfl, hSw⟩)) (h := ?_)
        simp only [Act.put, List.setIfInBounds_toArray, List.set_cons_zero, List.set_cons_succ]
        refine quietL (hy := fun E Wx hSw => by (go_simp; exact ⟨rfl, hSw⟩)) (h := ?_)
        simp only [Act.put, List.setIfInBounds_toArray, List.set_cons_zero, List.set_cons_succ]
        refine quietL (hy := fun E Wx hSw => by ((obtain ⟨u0, u1, u2, u3, u4⟩ := Cb20_200_1.out _ _ hSw); go_simp; exact ⟨rfl, hSw⟩)) (h := ?_)
        simp only [Act.put, List.setIfInBounds_toArray, List.set_cons_zero, List.set_cons_succ]
        refine quietL (hy := fun E Wx hSw => by (go_simp; exact symCall (K20_28.out _ _ hSw))) (h := ?_)
        simp only [Act.put, List.setIfInBounds_toArray, List.set_cons_zero, List.set_cons_succ]
        refine quietL (hy := fun E Wx hSw => by (go_simp; exact ⟨rfl, hSw⟩)) (h := ?_)
        simp only [Act.put, List.setIfInBounds_toArray, List.set_cons_zero, List.set_cons_succ]
        refine quietL (hy := fun E Wx hSw => by (go_simp; exact ⟨rfl, hSw⟩)) (h := ?_)
        simp only [Act.put, List.setIfInBounds_toArray, List.set_cons_zero, List.set_cons_succ]
        refine quietL (hy := fun E Wx hSw => by (go_simp; exact ⟨rfl, hSw⟩)) (h := ?_)
        simp only [Act.put, List.setIfInBounds_toArray, List.set_cons_zero, List.set_cons_succ]
        refine quietL (hy := fun E Wx hSw => by (go_simp; exact ⟨rfl, hSw⟩)) (h := ?_)
        simp only [Act.put, List.setIfInBounds_toArray, List.set_cons_zero, List.set_cons_succ]
        refine quietL (hy := fun E Wx hSw => by (go_simp; exact ⟨rfl, hSw⟩)) (h := ?_)
        simp only [Act.put, List.setIfInBounds_toArray, List.set_cons_zero, List.set_cons_succ]
        refine quietL (hy := fun E Wx hSw => by (go_simp; exact ⟨rfl, hSw⟩)) (h := ?_)
        simp only [Act.put, List.setIfInBounds_toArray, List.set_cons_zero, List.set_cons_succ]
        refine quietL (hy := fun E Wx hSw => by (go_simp; exact ⟨rfl, hSw⟩)) (h := ?_)
        simp only [Act.put, List.setIfInBounds_toArray, List.set_cons_zero, List.set_cons_succ]
        refine quietL (hy := fun E Wx hSw => by ((obtain ⟨u0, u1, u2, u3, u4⟩ := Cb20_200_5.out _ _ hSw); go_simp; exact ⟨rfl, hSw⟩)) (h := ?_)
        simp only [Act.put, List.setIfInBounds_toArray, List.set_cons_zero, List.set_cons_succ]
        refine quietL (hy := fun E Wx hSw => by (go_simp; exact symCall (K20_37.out _ _ hSw))) (h := ?_)
        simp only [Act.put, List.setIfInBounds_toArray, List.set_cons_zero, List.set_cons_succ]
        refine quietL (hy := fun E Wx hSw => by (go_simp; exact ⟨rfl, hSw⟩)) (h := ?_)
        simp only [Act.put, List.setIfInBounds_toArray, List.set_cons_zero, List.set_cons_succ]
        refine quietL (hy := fun E Wx hSw => by (go_simp; exact ⟨rfl, hSw⟩)) (h := ?_)
        simp only [Act.put, List.setIfInBounds_toArray, List.set_cons_zero, List.set_cons_succ]
        refine quietL (hy := fun E Wx hSw => by (go_simp; exact ⟨rfl, hSw⟩)) (h := ?_)
        simp only [Act.put, List.setIfInBounds_toArray, List.set_cons_zero, List.set_cons_succ]
        refine quietL (hy := fun E Wx hSw => by (go_simp; exact ⟨rfl, hSw⟩)) (h := ?_)
        simp only [Act.put, List.setIfInBounds_toArray, List.set_cons_zero, List.set_cons_succ]
        refine quietL (hy := fun E Wx hSw => by (go_simp; exact ⟨rfl, hSw⟩)) (h := ?_)
        simp only [Act.put, List.setIfInBounds_toArray, List.set_cons_zero, List.set_cons_succ]
        refine quietL (hy := fun E Wx hSw => by (go_simp; exact ⟨rfl, hSw⟩)) (h := ?_)
        simp only [Act.put, List.setIfInBounds_toArray, List.set_cons_zero, List.set_cons_succ]
        refine quietL (hy := fun E Wx hSw => by ((obtain ⟨u0, u1, u2, u3, u4⟩ := Cb20_200_6.out _ _ hSw); go_simp; exact ⟨rfl, hSw⟩)) (h := ?_)
        simp only [Act.put, List.setIfInBounds_toArray, List.set_cons_zero, List.set_cons_succ]
        refine quietL (hy := fun E Wx hSw => by (go_simp; exact symCall (K20_45.out _ _ hSw))) (h := ?_)
        simp only [Act.put, List.setIfInBounds_toArray, List.set_cons_zero, List.set_cons_succ]
        refine quietL (hy := fun E Wx hSw => by (go_simp; exact ⟨rfl, hSw⟩)) (h := ?_)
        simp only [Act.put, List.setIfInBounds_toArray, List.set_cons_zero, List.set_cons_succ]
        refine quietL (hy := fun E Wx hSw => by (go_simp; exact ⟨rfl, hSw⟩)) (h := ?_)
        simp only [Act.put, List.setIfInBounds_toArray, List.set_cons_zero, List.set_cons_succ]
        refine quietL (hy := fun E Wx hSw => by (go_simp; exact ⟨rfl, hSw⟩)) (h := ?_)
        simp only [Act.put, List.setIfInBounds_toArray, List.set_cons_zero, List.set_cons_succ]
        refine quietL (hy := fun E Wx hSw => by (go_simp; exact ⟨rfl, hSw⟩)) (h := ?_)
        simp only [Act.put, List.setIfInBounds_toArray, List.set_cons_zero, List.set_cons_succ]
        refine quietL (hy := fun E Wx hSw => by (go_simp; exact ⟨rfl, hSw⟩)) (h := ?_)
        simp only [Act.put, List.setIfInBounds_toArray, List.set_cons_zero, List.set_cons_succ]
        refine quietL (hy := fun E Wx hSw => by (go_simp; exact ⟨rfl, hSw⟩)) (h := ?_)
        simp only [Act.put, List.setIfInBounds_toArray, List.set_cons_zero, List.set_cons_succ]
        refine quietL (hy := fun E Wx hSw => by ((obtain ⟨u0, u1, u2, u3, u4⟩ := Cb20_200_7.out _ _ hSw); go_simp; exact ⟨rfl, hSw⟩)) (h := ?_)
        simp only [Act.put, List.setIfInBounds_toArray, List.set_cons_zero, List.set_cons_succ]
        refine quietL (hy := fun E Wx hSw => by (go_simp; exact symCall (K20_53.out _ _ hSw))) (h := ?_)
        simp only [Act.put, List.setIfInBounds_toArray, List.set_cons_zero, List.set_cons_succ]
        refine quietL (hy := fun E Wx hSw => by (go_simp; exact ⟨rfl, hSw⟩)) (h := ?_)
        simp only [Act.put, List.setIfInBounds_toArray, List.set_cons_zero, List.set_cons_succ]
        refine quietL (hy := fun E Wx hSw => by (go_simp; exact ⟨rfl, hSw⟩)) (h := ?_)
        simp only [Act.put, List.setIfInBounds_toArray, List.set_cons_zero, List.set_cons_succ]
        refine quietL (hy := fun E Wx hSw => by (go_simp; exact ⟨rfl, hSw⟩)) (h := ?_)
        simp only [Act.put, List.setIfInBounds_toArray, List.set_cons_zero, List.set_cons_succ]
        refine quietL (hy := fun E Wx hSw => by ((obtain ⟨u0, u1, u2⟩ := Cb20_200_0.out _ _ hSw); go_simp; exact ⟨rfl, hSw⟩)) (h := ?_)
        simp only [Act.put, List.setIfInBounds_toArray, List.set_cons_zero, List.set_cons_succ]
        refine quietL (hy := fun E Wx hSw => by (go_simp; exact symCall (K20_58.out _ _ hSw))) (h := ?_)
        simp only [Act.put, List.setIfInBounds_toArray, List.set_cons_zero, List.set_cons_succ]
        refine quietL (hy := fun E Wx hSw => by (go_simp; exact ⟨rfl, hSw⟩)) (h := ?_)
        simp only [Act.put, List.setIfInBounds_toArray, List.set_cons_zero, List.set_cons_succ]
        refine quietL (hy := fun E Wx hSw => by (go_simp; exact ⟨rfl, hSw⟩)) (h := ?_)
        simp only [Act.put, List.setIfInBounds_toArray, List.set_cons_zero, List.set_cons_succ]
        refine quietL (hy := fun E Wx hSw => by (go_simp; exact ⟨rfl, hSw⟩)) (h := ?_)
        simp only [Act.put, List.setIfInBounds_toArray, List.set_cons_zero, List.set_cons_succ]
        refine quietL (hy := fun E Wx hSw => by (go_simp; exact ⟨rfl, hSw⟩)) (h := ?_)
        simp only [Act.put, List.setIfInBounds_toArray, List.set_cons_zero, List.set_cons_succ]
        refine quietL (hy := fun E Wx hSw => by (go_simp; exact ⟨rfl, hSw⟩)) (h := ?_)
        simp only [Act.put, List.setIfInBounds_toArray, List.set_cons_zero, List.set_cons_succ]
        refine quietL (hy := fun E Wx hSw => by (go_simp; exact ⟨rfl, hSw⟩)) (h := ?_)
        simp only [Act.put, List.setIfInBounds_toArray, List.set_cons_zero, List.set_cons_succ]
        refine quietL (hy := fun E Wx hSw => by (go_simp; exact symCall (K20_65.out _ _ hSw))) (h := ?_)
        simp only [Act.put, List.setIfInBounds_toArray, List.set_cons_zero, List.set_cons_succ]
        refine quietL (hy := fun E Wx hSw => by (go_simp; exact symCall (K20_66.out _ _ hSw))) (h := ?_)
        simp only [Act.put, List.setIfInBounds_toArray, List.set_cons_zero, List.set_cons_succ]
        refine quietL (hy := fun E Wx hSw => by (go_simp; exact ⟨rfl, hSw⟩)) (h := ?_)
        simp only [Act.put, List.setIfInBounds_toArray, List.set_cons_zero, List.set_cons_succ]
        refine quietL (hy := fun E Wx hSw => by (go_simp; exact ⟨rfl, hSw⟩)) (h := ?_)
        simp only [Act.put, List.setIfInBounds_toArray, List.set_cons_zero, List.set_cons_succ]
        refine quietL (hy := fun E Wx hSw => by (go_simp; exact ⟨rfl, hSw⟩)) (h := ?_)
        simp only [Act.put, List.setIfInBounds_toArray, List.set_cons_zero, List.set_cons_succ]
        refine quietL (hy := fun E Wx hSw => by (go_simp; exact ⟨rfl, hSw⟩)) (h := ?_)
        simp only [Act.put, List.setIfInBounds_toArray, List.set_cons_zero, List.set_cons_succ]
        refine quietL (hy := fun E Wx hSw => by (go_simp; exact ⟨rfl, hSw⟩)) (h := ?_)
        simp only [Act.put, List.setIfInBounds_toArray, List.set_cons_zero, List.set_cons_succ]
        intro w202 S
        replace S : Sep w (boxR qb161 (.cells #[.string ⟨#[]⟩, .int .i64 0, .int .i64 0, .string ⟨#[]⟩, .bool false] 38) :: boxR qb151 (.cells #[.string ⟨#[]⟩, .int .i64 0, .int .i64 0, .string ⟨#[]⟩, .bool false] 38) :: boxR qb141 (.cells #[.string ⟨#[]⟩, .int .i64 0, .int .i64 0, .string ⟨#[]⟩, .bool false] 38) :: boxR qb1 (.cells #[.string ⟨#[]⟩, .int .i64 0, .int .i64 0, .string ⟨#[]⟩, .bool false] 38) :: boxR qa121 (.cells #[.int .i64 0, .int .i64 0, .string ⟨#[]⟩] 29) :: boxR qb122 (.cells #[.string typeError, .int .i64 0, .int .i64 0, .string ⟨#[]⟩, .bool false] 38) :: boxR qa111 (.cells #[.int .i64 0, .int .i64 0, .string ⟨#[]⟩] 29) :: boxR qb112 (.cells #[.string typeError, .int .i64 0, .int .i64 0, .string ⟨#[]⟩, .bool false] 38) :: boxR qa101 (.cells #[.int .i64 0, .int .i64 0, .string ⟨#[]⟩] 29) :: boxR qb102 (.cells #[.string typeError, .int .i64 0, .int .i64 0, .string ⟨#[]⟩, .bool false] 38) :: boxR qa91 (.cells #[.int .i64 0, .int .i64 0, .string ⟨#[]⟩] 29) :: boxR qb92 (.cells #[.string typeError, .int .i64 0, .int .i64 0, .string ⟨#[]⟩, .bool false] 38) :: boxR qq0_8 (.cells #[.int .i64 0, .int .i64 0, .string ⟨#[]⟩] 29) :: boxR qq1_8 (.cells #[.string typeError, .int .i64 0, .int .i64 0, .string ⟨#[]⟩, .bool false] 38) :: boxR qq0_7 (.cells #[.int .i64 0, .int .i64 0, .string ⟨#[]⟩] 29) :: boxR qq1_7 (.cells #[.string typeError, .int .i64 0, .int .i64 0, .string ⟨#[]⟩, .bool false] 38) :: boxR qQ1 (.cells #[.int .i64 2, .int .i64 5, .string ⟨#[]⟩, .int .i64 2, .int .i64 6, .string ⟨#[]⟩] 29) :: boxR qL3 (.cells #[.int .i64 4, .int .i64 1, .string ⟨#[]⟩] 29) :: heapR h H1 :: boxR qB1 (.cells #[.int .i64 vb.kind, .int .i64 vb.n, .string vb.s] 29) :: []) w202 := by rw [Hb20_200.out] at S; exact S
        clear Hb20_200 Kb20_200 K20_1 K20_4 K20_8 K20_12 K20_16 K20_20 K20_28 K20_37 K20_45 K20_53 K20_58 K20_65 K20_66 Cb20_200_0 Cb20_200_1 Cb20_200_2 Cb20_200_3 Cb20_200_4 Cb20_200_5 Cb20_200_6 Cb20_200_7 Cb20_200_8 Cb20_200_9 Cb20_200_10
        replace S := Lib.hid S.below
        go_wp2
        go_ret
        exact ⟨rfl, S.out⟩
      case true =>
        have hnb : vb.n = 1 := by rw [HVB.out]; rfl
        have HVN := Lib.hid hnb
        clear hnb
        have hnm := HNM2.out
        simp only [if_true] at hnm
        subst hnm
        clear HNM HNM2
        replace S := S.out
        obtain ⟨b20_200, hb20_200⟩ : ∃ base, base = boxR qb161 (.cells #[.string ⟨#[]⟩, .int .i64 0, .int .i64 0, .string ⟨#[]⟩, .bool false] 38) :: boxR qb151 (.cells #[.string ⟨#[]⟩, .int .i64 0, .int .i64 0, .string ⟨#[]⟩, .bool false] 38) :: boxR qb141 (.cells #[.string ⟨#[]⟩, .int .i64 0, .int .i64 0, .string ⟨#[]⟩, .bool false] 38) :: boxR qb1 (.cells #[.string ⟨#[]⟩, .int .i64 0, .int .i64 0, .string ⟨#[]⟩, .bool false] 38) :: boxR qa121 (.cells #[.int .i64 0, .int .i64 0, .string ⟨#[]⟩] 29) :: boxR qb122 (.cells #[.string typeError, .int .i64 0, .int .i64 0, .string ⟨#[]⟩, .bool false] 38) :: boxR qa111 (.cells #[.int .i64 0, .int .i64 0, .string ⟨#[]⟩] 29) :: boxR qb112 (.cells #[.string typeError, .int .i64 0, .int .i64 0, .string ⟨#[]⟩, .bool false] 38) :: boxR qa101 (.cells #[.int .i64 0, .int .i64 0, .string ⟨#[]⟩] 29) :: boxR qb102 (.cells #[.string typeError, .int .i64 0, .int .i64 0, .string ⟨#[]⟩, .bool false] 38) :: boxR qa91 (.cells #[.int .i64 0, .int .i64 0, .string ⟨#[]⟩] 29) :: boxR qb92 (.cells #[.string typeError, .int .i64 0, .int .i64 0, .string ⟨#[]⟩, .bool false] 38) :: boxR qq0_8 (.cells #[.int .i64 0, .int .i64 0, .string ⟨#[]⟩] 29) :: boxR qq1_8 (.cells #[.string typeError, .int .i64 0, .int .i64 0, .string ⟨#[]⟩, .bool false] 38) :: boxR qq0_7 (.cells #[.int .i64 0, .int .i64 0, .string ⟨#[]⟩] 29) :: boxR qq1_7 (.cells #[.string typeError, .int .i64 0, .int .i64 0, .string ⟨#[]⟩, .bool false] 38) :: boxR qQ1 (.cells #[.int .i64 2, .int .i64 5, .string ⟨#[]⟩, .int .i64 2, .int .i64 6, .string ⟨#[]⟩] 29) :: boxR qL3 (.cells #[.int .i64 4, .int .i64 1, .string ⟨#[]⟩] 29) :: heapR h H1 :: boxR qB1 (.cells #[.int .i64 vb.kind, .int .i64 vb.n, .string vb.s] 29) :: [] := ⟨_, rfl⟩
        have Hb20_200 := Lib.hid hb20_200
        have Kb20_200 : Hid (∀ W (Q : List Res), Sep w (Q ++ b20_200) W → True) := Lib.hid fun W Q T => by
          rw [hb20_200] at T
          trivial
        have Cb20_200_0 : Hid (∀ W (Q : List Res), Sep w (Q ++ b20_200) W → W.cell? ⟨qB1, 0, none⟩ = some (.int .i64 vb.kind) ∧ W.cell? ⟨qB1, 1, none⟩ = some (.int .i64 vb.n) ∧ W.cell? ⟨qB1, 2, none⟩ = some (.string vb.s)) := Lib.hid fun W Q T => by
          rw [hb20_200] at T
          have i0 := T.box (b := qB1) (o := .cells #[.int .i64 vb.kind, .int .i64 vb.n, .string vb.s] 29) (Q.length + 19) (by rw [List.getElem?_append_right (by omega), Nat.add_sub_cancel_left]; rfl)
          exact ⟨cellAt i0 0 rfl, cellAt i0 1 rfl, cellAt i0 2 rfl⟩
        have Cb20_200_1 : Hid (∀ W (Q : List Res), Sep w (Q ++ b20_200) W → W.cell? ⟨qb1, 0, none⟩ = some (.string ⟨#[]⟩) ∧ W.cell? ⟨qb1, 1, none⟩ = some (.int .i64 0) ∧ W.cell? ⟨qb1, 2, none⟩ = some (.int .i64 0) ∧ W.cell? ⟨qb1, 3, none⟩ = some (.string ⟨#[]⟩) ∧ W.cell? ⟨qb1, 4, none⟩ = some (.bool false)) := Lib.hid fun W Q T => by
          rw [hb20_200] at T
          have i0 := T.box (b := qb1) (o := .cells #[.string ⟨#[]⟩, .int .i64 0, .int .i64 0, .string ⟨#[]⟩, .bool false] 38) (Q.length + 3) (by rw [List.getElem?_append_right (by omega), Nat.add_sub_cancel_left]; rfl)
          exact ⟨cellAt i0 0 rfl, cellAt i0 1 rfl, cellAt i0 2 rfl, cellAt i0 3 rfl, cellAt i0 4 rfl⟩
        have Cb20_200_2 : Hid (∀ W (Q : List Res), Sep w (Q ++ b20_200) W → W.cell? ⟨qb102, 0, none⟩ = some (.string typeError) ∧ W.cell? ⟨qb102, 1, none⟩ = some (.int .i64 0) ∧ W.cell? ⟨qb102, 2, none⟩ = some (.int .i64 0) ∧ W.cell? ⟨qb102, 3, none⟩ = some (.string ⟨#[]⟩) ∧ W.cell? ⟨qb102, 4, none⟩ = some (.bool false)) := Lib.hid fun W Q T => by
          rw [hb20_200] at T
          have i0 := T.box (b := qb102) (o := .cells #[.string typeError, .int .i64 0, .int .i64 0, .string ⟨#[]⟩, .bool false] 38) (Q.length + 9) (by rw [List.getElem?_append_right (by omega), Nat.add_sub_cancel_left]; rfl)
          exact ⟨cellAt i0 0 rfl, cellAt i0 1 rfl, cellAt i0 2 rfl, cellAt i0 3 rfl, cellAt i0 4 rfl⟩
        have Cb20_200_3 : Hid (∀ W (Q : List Res), Sep w (Q ++ b20_200) W → W.cell? ⟨qb112, 0, none⟩ = some (.string typeError) ∧ W.cell? ⟨qb112, 1, none⟩ = some (.int .i64 0) ∧ W.cell? ⟨qb112, 2, none⟩ = some (.int .i64 0) ∧ W.cell? ⟨qb112, 3, none⟩ = some (.string ⟨#[]⟩) ∧ W.cell? ⟨qb112, 4, none⟩ = some (.bool false)) := Lib.hid fun W Q T => by
          rw [hb20_200] at T
          have i0 := T.box (b := qb112) (o := .cells #[.string typeError, .int .i64 0, .int .i64 0, .string ⟨#[]⟩, .bool false] 38) (Q.length + 7) (by rw [List.getElem?_append_right (by omega), Nat.add_sub_cancel_left]; rfl)
          exact ⟨cellAt i0 0 rfl, cellAt i0 1 rfl, cellAt i0 2 rfl, cellAt i0 3 rfl, cellAt i0 4 rfl⟩
        have Cb20_200_4 : Hid (∀ W (Q : List Res), Sep w (Q ++ b20_200) W → W.cell? ⟨qb122, 0, none⟩ = some (.string typeError) ∧ W.cell? ⟨qb122, 1, none⟩ = some (.int .i64 0) ∧ W.cell? ⟨qb122, 2, none⟩ = some (.int .i64 0) ∧ W.cell? ⟨qb122, 3, none⟩ = some (.string ⟨#[]⟩) ∧ W.cell? ⟨qb122, 4, none⟩ = some (.bool false)) := Lib.hid fun W Q T => by
          rw [hb20_200] at T
          have i0 := T.box (b := qb122) (o := .cells #[.string typeError, .int .i64 0, .int .i64 0, .string ⟨#[]⟩, .bool false] 38) (Q.length + 5) (by rw [List.getElem?_append_right (by omega), Nat.add_sub_cancel_left]; rfl)
          exact ⟨cellAt i0 0 rfl, cellAt i0 1 rfl, cellAt i0 2 rfl, cellAt i0 3 rfl, cellAt i0 4 rfl⟩
        have Cb20_200_5 : Hid (∀ W (Q : List Res), Sep w (Q ++ b20_200) W → W.cell? ⟨qb141, 0, none⟩ = some (.string ⟨#[]⟩) ∧ W.cell? ⟨qb141, 1, none⟩ = some (.int .i64 0) ∧ W.cell? ⟨qb141, 2, none⟩ = some (.int .i64 0) ∧ W.cell? ⟨qb141, 3, none⟩ = some (.string ⟨#[]⟩) ∧ W.cell? ⟨qb141, 4, none⟩ = some (.bool false)) := Lib.hid fun W Q T => by
          rw [hb20_200] at T
          have i0 := T.box (b := qb141) (o := .cells #[.string ⟨#[]⟩, .int .i64 0, .int .i64 0, .string ⟨#[]⟩, .bool false] 38) (Q.length + 2) (by rw [List.getElem?_append_right (by omega), Nat.add_sub_cancel_left]; rfl)
          exact ⟨cellAt i0 0 rfl, cellAt i0 1 rfl, cellAt i0 2 rfl, cellAt i0 3 rfl, cellAt i0 4 rfl⟩
        have Cb20_200_6 : Hid (∀ W (Q : List Res), Sep w (Q ++ b20_200) W → W.cell? ⟨qb151, 0, none⟩ = some (.string ⟨#[]⟩) ∧ W.cell? ⟨qb151, 1, none⟩ = some (.int .i64 0) ∧ W.cell? ⟨qb151, 2, none⟩ = some (.int .i64 0) ∧ W.cell? ⟨qb151, 3, none⟩ = some (.string ⟨#[]⟩) ∧ W.cell? ⟨qb151, 4, none⟩ = some (.bool false)) := Lib.hid fun W Q T => by
          rw [hb20_200] at T
          have i0 := T.box (b := qb151) (o := .cells #[.string ⟨#[]⟩, .int .i64 0, .int .i64 0, .string ⟨#[]⟩, .bool false] 38) (Q.length + 1) (by rw [List.getElem?_append_right (by omega), Nat.add_sub_cancel_left]; rfl)
          exact ⟨cellAt i0 0 rfl, cellAt i0 1 rfl, cellAt i0 2 rfl, cellAt i0 3 rfl, cellAt i0 4 rfl⟩
        have Cb20_200_7 : Hid (∀ W (Q : List Res), Sep w (Q ++ b20_200) W → W.cell? ⟨qb161, 0, none⟩ = some (.string ⟨#[]⟩) ∧ W.cell? ⟨qb161, 1, none⟩ = some (.int .i64 0) ∧ W.cell? ⟨qb161, 2, none⟩ = some (.int .i64 0) ∧ W.cell? ⟨qb161, 3, none⟩ = some (.string ⟨#[]⟩) ∧ W.cell? ⟨qb161, 4, none⟩ = some (.bool false)) := Lib.hid fun W Q T => by
          rw [hb20_200] at T
          have i0 := T.box (b := qb161) (o := .cells #[.string ⟨#[]⟩, .int .i64 0, .int .i64 0, .string ⟨#[]⟩, .bool false] 38) (Q.length + 0) (by rw [List.getElem?_append_right (by omega), Nat.add_sub_cancel_left]; rfl)
          exact ⟨cellAt i0 0 rfl, cellAt i0 1 rfl, cellAt i0 2 rfl, cellAt i0 3 rfl, cellAt i0 4 rfl⟩
        have Cb20_200_8 : Hid (∀ W (Q : List Res), Sep w (Q ++ b20_200) W → W.cell? ⟨qb92, 0, none⟩ = some (.string typeError) ∧ W.cell? ⟨qb92, 1, none⟩ = some (.int .i64 0) ∧ W.cell? ⟨qb92, 2, none⟩ = some (.int .i64 0) ∧ W.cell? ⟨qb92, 3, none⟩ = some (.string ⟨#[]⟩) ∧ W.cell? ⟨qb92, 4, none⟩ = some (.bool false)) := Lib.hid fun W Q T => by
          rw [hb20_200] at T
          have i0 := T.box (b := qb92) (o := .cells #[.string typeError, .int .i64 0, .int .i64 0, .string ⟨#[]⟩, .bool false] 38) (Q.length + 11) (by rw [List.getElem?_append_right (by omega), Nat.add_sub_cancel_left]; rfl)
          exact ⟨cellAt i0 0 rfl, cellAt i0 1 rfl, cellAt i0 2 rfl, cellAt i0 3 rfl, cellAt i0 4 rfl⟩
        have Cb20_200_9 : Hid (∀ W (Q : List Res), Sep w (Q ++ b20_200) W → W.cell? ⟨qq1_7, 0, none⟩ = some (.string typeError) ∧ W.cell? ⟨qq1_7, 1, none⟩ = some (.int .i64 0) ∧ W.cell? ⟨qq1_7, 2, none⟩ = some (.int .i64 0) ∧ W.cell? ⟨qq1_7, 3, none⟩ = some (.string ⟨#[]⟩) ∧ W.cell? ⟨qq1_7, 4, none⟩ = some (.bool false)) := Lib.hid fun W Q T => by
          rw [hb20_200] at T
          have i0 := T.box (b := qq1_7) (o := .cells #[.string typeError, .int .i64 0, .int .i64 0, .string ⟨#[]⟩, .bool false] 38) (Q.length + 15) (by rw [List.getElem?_append_right (by omega), Nat.add_sub_cancel_left]; rfl)
          exact ⟨cellAt i0 0 rfl, cellAt i0 1 rfl, cellAt i0 2 rfl, cellAt i0 3 rfl, cellAt i0 4 rfl⟩
        have Cb20_200_10 : Hid (∀ W (Q : List Res), Sep w (Q ++ b20_200) W → W.cell? ⟨qq1_8, 0, none⟩ = some (.string typeError) ∧ W.cell? ⟨qq1_8, 1, none⟩ = some (.int .i64 0) ∧ W.cell? ⟨qq1_8, 2, none⟩ = some (.int .i64 0) ∧ W.cell? ⟨qq1_8, 3, none⟩ = some (.string ⟨#[]⟩) ∧ W.cell? ⟨qq1_8, 4, none⟩ = some (.bool false)) := Lib.hid fun W Q T => by
          rw [hb20_200] at T
          have i0 := T.box (b := qq1_8) (o := .cells #[.string typeError, .int .i64 0, .int .i64 0, .string ⟨#[]⟩, .bool false] 38) (Q.length + 13) (by rw [List.getElem?_append_right (by omega), Nat.add_sub_cancel_left]; rfl)
          exact ⟨cellAt i0 0 rfl, cellAt i0 1 rfl, cellAt i0 2 rfl, cellAt i0 3 rfl, cellAt i0 4 rfl⟩
        have K20_1 : Hid (∀ W (Q : List Res), Sep w (Q ++ b20_200) W → Calls Tryz.prog 21 #[excN typeError, .string typeError] W fun e W' => e = .returned (.bool true) ∧ Sep w (Q ++ b20_200) W') := Lib.hid fun W Q T => by
          exact (raised_type W).mono fun e W' ⟨e1, e2⟩ => ⟨e1, T.later e2⟩
        have K20_4 : Hid (∀ W (Q : List Res), Sep w (Q ++ b20_200) W → Calls Tryz.prog 21 #[excN typeError, .string typeError] W fun e W' => e = .returned (.bool true) ∧ Sep w (Q ++ b20_200) W') := Lib.hid fun W Q T => by
          exact (raised_type W).mono fun e W' ⟨e1, e2⟩ => ⟨e1, T.later e2⟩
        have K20_8 : Hid (∀ W (Q : List Res), Sep w (Q ++ b20_200) W → Calls Tryz.prog 21 #[excN typeError, .string typeError] W fun e W' => e = .returned (.bool true) ∧ Sep w (Q ++ b20_200) W') := Lib.hid fun W Q T => by
          exact (raised_type W).mono fun e W' ⟨e1, e2⟩ => ⟨e1, T.later e2⟩
        have K20_12 : Hid (∀ W (Q : List Res), Sep w (Q ++ b20_200) W → Calls Tryz.prog 21 #[excN typeError, .string typeError] W fun e W' => e = .returned (.bool true) ∧ Sep w (Q ++ b20_200) W') := Lib.hid fun W Q T => by
          exact (raised_type W).mono fun e W' ⟨e1, e2⟩ => ⟨e1, T.later e2⟩
        have K20_16 : Hid (∀ W (Q : List Res), Sep w (Q ++ b20_200) W → Calls Tryz.prog 21 #[excN typeError, .string typeError] W fun e W' => e = .returned (.bool true) ∧ Sep w (Q ++ b20_200) W') := Lib.hid fun W Q T => by
          exact (raised_type W).mono fun e W' ⟨e1, e2⟩ => ⟨e1, T.later e2⟩
        have K20_20 : Hid (∀ W (Q : List Res), Sep w (Q ++ b20_200) W → Calls Tryz.prog 21 #[excN typeError, .string typeError] W fun e W' => e = .returned (.bool true) ∧ Sep w (Q ++ b20_200) W') := Lib.hid fun W Q T => by
          exact (raised_type W).mono fun e W' ⟨e1, e2⟩ => ⟨e1, T.later e2⟩
        have K20_28 : Hid (∀ W (Q : List Res), Sep w (Q ++ b20_200) W → Calls Tryz.prog 19 #[excZ] W fun e W' => e = .returned (.bool true) ∧ Sep w (Q ++ b20_200) W') := Lib.hid fun W Q T => by
          exact (none_z W).mono fun e W' ⟨e1, e2⟩ => ⟨e1, T.later e2⟩
        have K20_37 : Hid (∀ W (Q : List Res), Sep w (Q ++ b20_200) W → Calls Tryz.prog 19 #[excZ] W fun e W' => e = .returned (.bool true) ∧ Sep w (Q ++ b20_200) W') := Lib.hid fun W Q T => by
          exact (none_z W).mono fun e W' ⟨e1, e2⟩ => ⟨e1, T.later e2⟩
        have K20_45 : Hid (∀ W (Q : List Res), Sep w (Q ++ b20_200) W → Calls Tryz.prog 19 #[excZ] W fun e W' => e = .returned (.bool true) ∧ Sep w (Q ++ b20_200) W') := Lib.hid fun W Q T => by
          exact (none_z W).mono fun e W' ⟨e1, e2⟩ => ⟨e1, T.later e2⟩
        have K20_53 : Hid (∀ W (Q : List Res), Sep w (Q ++ b20_200) W → Calls Tryz.prog 19 #[excZ] W fun e W' => e = .returned (.bool true) ∧ Sep w (Q ++ b20_200) W') := Lib.hid fun W Q T => by
          exact (none_z W).mono fun e W' ⟨e1, e2⟩ => ⟨e1, T.later e2⟩
        have K20_58 : Hid (∀ W (Q : List Res), Sep w (Q ++ b20_200) W → Calls Tryz.prog 37 #[.pointer (some ⟨h, 0, none⟩), .agg #[.int .i64 vb.kind, .int .i64 vb.n, .string vb.s]] W fun e W' => e = .returned (.bool true) ∧ Sep w (Q ++ b20_200) W') := Lib.hid fun W Q T => by
          rw [Hb20_200.out] at T ⊢
          exact (by have hh := truth_bool (h := h) T vb HB.out.2.1; rw [show (vb.n != 0) = true by rw [HVN.out]; rfl] at hh; exact hh)
        have K20_65 : Hid (∀ W (Q : List Res), Sep w (Q ++ b20_200) W → Calls Tryz.prog 16 #[.int .i64 n] W fun e W' => e = .returned (.agg #[.int .i64 2, .int .i64 n, .string ⟨#[]⟩]) ∧ Sep w (Q ++ b20_200) W') := Lib.hid fun W Q T => by
          exact (lnum_ok W n).mono fun e W' ⟨e1, e2⟩ => ⟨e1, T.later e2⟩
        have K20_66 : Hid (∀ W (Q : List Res), Sep w (Q ++ b20_200) W → Calls Tryz.prog 37 #[.pointer (some ⟨h, 0, none⟩), .agg #[.int .i64 2, .int .i64 n, .string ⟨#[]⟩]] W fun e W' => e = .returned (.bool (n != 0)) ∧ Sep w (Q ++ b20_200) W') := Lib.hid fun W Q T => by
          rw [Hb20_200.out] at T ⊢
          exact truth_int (h := h) T (vI n HN.out) rfl
        replace S := Lib.hid S
        clear hb20_200
        go_upto_region 20 with fail
        have S1 : Sep w ([] ++ b20_200) (w26) := by rw [Hb20_200.out]; exact S.out
        clear S
        try simp only [List.append_eq, List.cons_append, List.nil_append]
        refine regionL (E := []) (base := b20_200) S1 ?_
        clear S1
        refine quietL (hy := fun E Wx hSw => by ((obtain ⟨u0, u1, u2, u3, u4⟩ := Cb20_200_9.out _ _ hSw); go_simp; exact ⟨rfl, hSw⟩)) (h := ?_)
        simp only [Act.put, List.setIfInBounds_toArray, List.set_cons_zero, List.set_cons_succ]
        refine quietL (hy := fun E Wx hSw => by (go_simp; exact symCall (K20_1.out _ _ hSw))) (h := ?_)
        simp only [Act.put, List.setIfInBounds_toArray, List.set_cons_zero, List.set_cons_succ]
        refine quietL (hy := fun E Wx hSw => by (go_simp; exact ⟨rfl, hSw⟩)) (h := ?_)
        simp only [Act.put, List.setIfInBounds_toArray, List.set_cons_zero, List.set_cons_succ]
        refine quietL (hy := fun E Wx hSw => by ((obtain ⟨u0, u1, u2, u3, u4⟩ := Cb20_200_10.out _ _ hSw); go_simp; exact ⟨rfl, hSw⟩)) (h := ?_)
        simp only [Act.put, List.setIfInBounds_toArray, List.set_cons_zero, List.set_cons_succ]
        refine quietL (hy := fun E Wx hSw => by (go_simp; exact symCall (K20_4.out _ _ hSw))) (h := ?_)
        simp only [Act.put, List.setIfInBounds_toArray, List.set_cons_zero, List.set_cons_succ]
        refine quietL (hy := fun E Wx hSw => by (go_simp; exact ⟨rfl, hSw⟩)) (h := ?_)
        simp only [Act.put, List.setIfInBounds_toArray, List.set_cons_zero, List.set_cons_succ]
        refine quietL (hy := fun E Wx hSw => by (go_simp; exact ⟨rfl, hSw⟩)) (h := ?_)
        simp only [Act.put, List.setIfInBounds_toArray, List.set_cons_zero, List.set_cons_succ]
        refine quietL (hy := fun E Wx hSw => by ((obtain ⟨u0, u1, u2, u3, u4⟩ := Cb20_200_8.out _ _ hSw); go_simp; exact ⟨rfl, hSw⟩)) (h := ?_)
        simp only [Act.put, List.setIfInBounds_toArray, List.set_cons_zero, List.set_cons_succ]
        refine quietL (hy := fun E Wx hSw => by (go_simp; exact symCall (K20_8.out _ _ hSw))) (h := ?_)
        simp only [Act.put, List.setIfInBounds_toArray, List.set_cons_zero, List.set_cons_succ]
        refine quietL (hy := fun E Wx hSw => by (go_simp; exact ⟨rfl, hSw⟩)) (h := ?_)
        simp only [Act.put, List.setIfInBounds_toArray, List.set_cons_zero, List.set_cons_succ]
        refine quietL (hy := fun E Wx hSw => by (go_simp; exact ⟨rfl, hSw⟩)) (h := ?_)
        simp only [Act.put, List.setIfInBounds_toArray, List.set_cons_zero, List.set_cons_succ]
        refine quietL (hy := fun E Wx hSw => by ((obtain ⟨u0, u1, u2, u3, u4⟩ := Cb20_200_2.out _ _ hSw); go_simp; exact ⟨rfl, hSw⟩)) (h := ?_)
        simp only [Act.put, List.setIfInBounds_toArray, List.set_cons_zero, List.set_cons_succ]
        refine quietL (hy := fun E Wx hSw => by (go_simp; exact symCall (K20_12.out _ _ hSw))) (h := ?_)
        simp only [Act.put, List.setIfInBounds_toArray, List.set_cons_zero, List.set_cons_succ]
        refine quietL (hy := fun E Wx hSw => by (go_simp; exact ⟨rfl, hSw⟩)) (h := ?_)
        simp only [Act.put, List.setIfInBounds_toArray, List.set_cons_zero, List.set_cons_succ]
        refine quietL (hy := fun E Wx hSw => by (go_simp; exact ⟨rfl, hSw⟩)) (h := ?_)
        simp only [Act.put, List.setIfInBounds_toArray, List.set_cons_zero, List.set_cons_succ]
        refine quietL (hy := fun E Wx hSw => by ((obtain ⟨u0, u1, u2, u3, u4⟩ := Cb20_200_3.out _ _ hSw); go_simp; exact ⟨rfl, hSw⟩)) (h := ?_)
        simp only [Act.put, List.setIfInBounds_toArray, List.set_cons_zero, List.set_cons_succ]
        refine quietL (hy := fun E Wx hSw => by (go_simp; exact symCall (K20_16.out _ _ hSw))) (h := ?_)
        simp only [Act.put, List.setIfInBounds_toArray, List.set_cons_zero, List.set_cons_succ]
        refine quietL (hy := fun E Wx hSw => by (go_simp; exact ⟨rfl, hSw⟩)) (h := ?_)
        simp only [Act.put, List.setIfInBounds_toArray, List.set_cons_zero, List.set_cons_succ]
        refine quietL (hy := fun E Wx hSw => by (go_simp; exact ⟨rfl, hSw⟩)) (h := ?_)
        simp only [Act.put, List.setIfInBounds_toArray, List.set_cons_zero, List.set_cons_succ]
        refine quietL (hy := fun E Wx hSw => by ((obtain ⟨u0, u1, u2, u3, u4⟩ := Cb20_200_4.out _ _ hSw); go_simp; exact ⟨rfl, hSw⟩)) (h := ?_)
        simp only [Act.put, List.setIfInBounds_toArray, List.set_cons_zero, List.set_cons_succ]
        refine quietL (hy := fun E Wx hSw => by (go_simp; exact symCall (K20_20.out _ _ hSw))) (h := ?_)
        simp only [Act.put, List.setIfInBounds_toArray, List.set_cons_zero, List.set_cons_succ]
        refine quietL (hy := fun E Wx hSw => by (go_simp; exact ⟨rfl, hSw⟩)) (h := ?_)
        simp only [Act.put, List.setIfInBounds_toArray, List.set_cons_zero, List.set_cons_succ]
        refine quietL (hy := fun E Wx hSw => by (go_simp; exact ⟨rfl, hSw⟩)) (h := ?_)
        simp only [Act.put, List.setIfInBounds_toArray, List.set_cons_zero, List.set_cons_succ]
        refine quietL (hy := fun E Wx hSw => by (go_simp; exact ⟨rfl, hSw⟩)) (h := ?_)
        simp only [Act.put, List.setIfInBounds_toArray, List.set_cons_zero, List.set_cons_succ]
        refine quietL (hy := fun E Wx hSw => by (go_simp; exact ⟨rfl, hSw⟩)) (h := ?_)
        simp only [Act.put, List.setIfInBounds_toArray, List.set_cons_zero, List.set_cons_succ]
        refine quietL (hy := fun E Wx hSw => by (go_simp; exact ⟨rfl, hSw⟩)) (h := ?_)
        simp only [Act.put, List.setIfInBounds_toArray, List.set_cons_zero, List.set_cons_succ]
        refine quietL (hy := fun E Wx hSw => by (go_simp; exact ⟨rfl, hSw⟩)) (h := ?_)
        simp only [Act.put, List.setIfInBounds_toArray, List.set_cons_zero, List.set_cons_succ]
        refine quietL (hy := fun E Wx hSw => by ((obtain ⟨u0, u1, u2, u3, u4⟩ := Cb20_200_1.out _ _ hSw); go_simp; exact ⟨rfl, hSw⟩)) (h := ?_)
        simp only [Act.put, List.setIfInBounds_toArray, List.set_cons_zero, List.set_cons_succ]
        refine quietL (hy := fun E Wx hSw => by (go_simp; exact symCall (K20_28.out _ _ hSw))) (h := ?_)
        simp only [Act.put, List.setIfInBounds_toArray, List.set_cons_zero, List.set_cons_succ]
        refine quietL (hy := fun E Wx hSw => by (go_simp; exact ⟨rfl, hSw⟩)) (h := ?_)
        simp only [Act.put, List.setIfInBounds_toArray, List.set_cons_zero, List.set_cons_succ]
        refine quietL (hy := fun E Wx hSw => by (go_simp; exact ⟨rfl, hSw⟩)) (h := ?_)
        simp only [Act.put, List.setIfInBounds_toArray, List.set_cons_zero, List.set_cons_succ]
        refine quietL (hy := fun E Wx hSw => by (go_simp; exact ⟨rfl, hSw⟩)) (h := ?_)
        simp only [Act.put, List.setIfInBounds_toArray, List.set_cons_zero, List.set_cons_succ]
        refine quietL (hy := fun E Wx hSw => by (go_simp; exact ⟨rfl, hSw⟩)) (h := ?_)
        simp only [Act.put, List.setIfInBounds_toArray, List.set_cons_zero, List.set_cons_succ]
        refine quietL (hy := fun E Wx hSw => by (go_simp; exact ⟨rfl, hSw⟩)) (h := ?_)
        simp only [Act.put, List.setIfInBounds_toArray, List.set_cons_zero, List.set_cons_succ]
        refine quietL (hy := fun E Wx hSw => by (go_simp; exact ⟨rfl, hSw⟩)) (h := ?_)
        simp only [Act.put, List.setIfInBounds_toArray, List.set_cons_zero, List.set_cons_succ]
        refine quietL (hy := fun E Wx hSw => by (go_simp; exact ⟨rfl, hSw⟩)) (h := ?_)
        simp only [Act.put, List.setIfInBounds_toArray, List.set_cons_zero, List.set_cons_succ]
        refine quietL (hy := fun E Wx hSw => by ((obtain ⟨u0, u1, u2, u3, u4⟩ := Cb20_200_5.out _ _ hSw); go_simp; exact ⟨rfl, hSw⟩)) (h := ?_)
        simp only [Act.put, List.setIfInBounds_toArray, List.set_cons_zero, List.set_cons_succ]
        refine quietL (hy := fun E Wx hSw => by (go_simp; exact symCall (K20_37.out _ _ hSw))) (h := ?_)
        simp only [Act.put, List.setIfInBounds_toArray, List.set_cons_zero, List.set_cons_succ]
        refine quietL (hy := fun E Wx hSw => by (go_simp; exact ⟨rfl, hSw⟩)) (h := ?_)
        simp only [Act.put, List.setIfInBounds_toArray, List.set_cons_zero, List.set_cons_succ]
        refine quietL (hy := fun E Wx hSw => by (go_simp; exact ⟨rfl, hSw⟩)) (h := ?_)
        simp only [Act.put, List.setIfInBounds_toArray, List.set_cons_zero, List.set_cons_succ]
        refine quietL (hy := fun E Wx hSw => by (go_simp; exact ⟨rfl, hSw⟩)) (h := ?_)
        simp only [Act.put, List.setIfInBounds_toArray, List.set_cons_zero, List.set_cons_succ]
        refine quietL (hy := fun E Wx hSw => by (go_simp; exact ⟨rfl, hSw⟩)) (h := ?_)
        simp only [Act.put, List.setIfInBounds_toArray, List.set_cons_zero, List.set_cons_succ]
        refine quietL (hy := fun E Wx hSw => by (go_simp; exact ⟨rfl, hSw⟩)) (h := ?_)
        simp only [Act.put, List.setIfInBounds_toArray, List.set_cons_zero, List.set_cons_succ]
        refine quietL (hy := fun E Wx hSw => by (go_simp; exact ⟨rfl, hSw⟩)) (h := ?_)
        simp only [Act.put, List.setIfInBounds_toArray, List.set_cons_zero, List.set_cons_succ]
        refine quietL (hy := fun E Wx hSw => by ((obtain ⟨u0, u1, u2, u3, u4⟩ := Cb20_200_6.out _ _ hSw); go_simp; exact ⟨rfl, hSw⟩)) (h := ?_)
        simp only [Act.put, List.setIfInBounds_toArray, List.set_cons_zero, List.set_cons_succ]
        refine quietL (hy := fun E Wx hSw => by (go_simp; exact symCall (K20_45.out _ _ hSw))) (h := ?_)
        simp only [Act.put, List.setIfInBounds_toArray, List.set_cons_zero, List.set_cons_succ]
        refine quietL (hy := fun E Wx hSw => by (go_simp; exact ⟨rfl, hSw⟩)) (h := ?_)
        simp only [Act.put, List.setIfInBounds_toArray, List.set_cons_zero, List.set_cons_succ]
        refine quietL (hy := fun E Wx hSw => by (go_simp; exact ⟨rfl, hSw⟩)) (h := ?_)
        simp only [Act.put, List.setIfInBounds_toArray, List.set_cons_zero, List.set_cons_succ]
        refine quietL (hy := fun E Wx hSw => by (go_simp; exact ⟨rfl, hSw⟩)) (h := ?_)
        simp only [Act.put, List.setIfInBounds_toArray, List.set_cons_zero, List.set_cons_succ]
        refine quietL (hy := fun E Wx hSw => by (go_simp; exact ⟨rfl, hSw⟩)) (h := ?_)
        simp only [Act.put, List.setIfInBounds_toArray, List.set_cons_zero, List.set_cons_succ]
        refine quietL (hy := fun E Wx hSw => by (go_simp; exact ⟨rfl, hSw⟩)) (h := ?_)
        simp only [Act.put, List.setIfInBounds_toArray, List.set_cons_zero, List.set_cons_succ]
        refine quietL (hy := fun E Wx hSw => by (go_simp; exact ⟨rfl, hSw⟩)) (h := ?_)
        simp only [Act.put, List.setIfInBounds_toArray, List.set_cons_zero, List.set_cons_succ]
        refine quietL (hy := fun E Wx hSw => by ((obtain ⟨u0, u1, u2, u3, u4⟩ := Cb20_200_7.out _ _ hSw); go_simp; exact ⟨rfl, hSw⟩)) (h := ?_)
        simp only [Act.put, List.setIfInBounds_toArray, List.set_cons_zero, List.set_cons_succ]
        refine quietL (hy := fun E Wx hSw => by (go_simp; exact symCall (K20_53.out _ _ hSw))) (h := ?_)
        simp only [Act.put, List.setIfInBounds_toArray, List.set_cons_zero, List.set_cons_succ]
        refine quietL (hy := fun E Wx hSw => by (go_simp; exact ⟨rfl, hSw⟩)) (h := ?_)
        simp only [Act.put, List.setIfInBounds_toArray, List.set_cons_zero, List.set_cons_succ]
        refine quietL (hy := fun E Wx hSw => by (go_simp; exact ⟨rfl, hSw⟩)) (h := ?_)
        simp only [Act.put, List.setIfInBounds_toArray, List.set_cons_zero, List.set_cons_succ]
        refine quietL (hy := fun E Wx hSw => by (go_simp; exact ⟨rfl, hSw⟩)) (h := ?_)
        simp only [Act.put, List.setIfInBounds_toArray, List.set_cons_zero, List.set_cons_succ]
        refine quietL (hy := fun E Wx hSw => by ((obtain ⟨u0, u1, u2⟩ := Cb20_200_0.out _ _ hSw); go_simp; exact ⟨rfl, hSw⟩)) (h := ?_)
        simp only [Act.put, List.setIfInBounds_toArray, List.set_cons_zero, List.set_cons_succ]
        refine quietL (hy := fun E Wx hSw => by (go_simp; exact symCall (K20_58.out _ _ hSw))) (h := ?_)
        simp only [Act.put, List.setIfInBounds_toArray, List.set_cons_zero, List.set_cons_succ]
        refine quietL (hy := fun E Wx hSw => by (go_simp; exact ⟨rfl, hSw⟩)) (h := ?_)
        simp only [Act.put, List.setIfInBounds_toArray, List.set_cons_zero, List.set_cons_succ]
        refine quietL (hy := fun E Wx hSw => by (go_simp; exact ⟨rfl, hSw⟩)) (h := ?_)
        simp only [Act.put, List.setIfInBounds_toArray, List.set_cons_zero, List.set_cons_succ]
        refine quietL (hy := fun E Wx hSw => by (go_simp; exact ⟨rfl, hSw⟩)) (h := ?_)
        simp only [Act.put, List.setIfInBounds_toArray, List.set_cons_zero, List.set_cons_succ]
        refine quietL (hy := fun E Wx hSw => by (go_simp; exact ⟨rfl, hSw⟩)) (h := ?_)
        simp only [Act.put, List.setIfInBounds_toArray, List.set_cons_zero, List.set_cons_succ]
        refine quietL (hy := fun E Wx hSw => by (go_simp; exact ⟨rfl, hSw⟩)) (h := ?_)
        simp only [Act.put, List.setIfInBounds_toArray, List.set_cons_zero, List.set_cons_succ]
        refine quietL (hy := fun E Wx hSw => by (go_simp; exact ⟨rfl, hSw⟩)) (h := ?_)
        simp only [Act.put, List.setIfInBounds_toArray, List.set_cons_zero, List.set_cons_succ]
        refine quietL (hy := fun E Wx hSw => by (go_simp; exact symCall (K20_65.out _ _ hSw))) (h := ?_)
        simp only [Act.put, List.setIfInBounds_toArray, List.set_cons_zero, List.set_cons_succ]
        refine quietL (hy := fun E Wx hSw => by (go_simp; exact symCall (K20_66.out _ _ hSw))) (h := ?_)
        simp only [Act.put, List.setIfInBounds_toArray, List.set_cons_zero, List.set_cons_succ]
        refine quietL (hy := fun E Wx hSw => by (go_simp; exact ⟨rfl, hSw⟩)) (h := ?_)
        simp only [Act.put, List.setIfInBounds_toArray, List.set_cons_zero, List.set_cons_succ]
        refine quietL (hy := fun E Wx hSw => by (go_simp; exact ⟨rfl, hSw⟩)) (h := ?_)
        simp only [Act.put, List.setIfInBounds_toArray, List.set_cons_zero, List.set_cons_succ]
        refine quietL (hy := fun E Wx hSw => by (go_simp; exact ⟨rfl, hSw⟩)) (h := ?_)
        simp only [Act.put, List.setIfInBounds_toArray, List.set_cons_zero, List.set_cons_succ]
        refine quietL (hy := fun E Wx hSw => by (go_simp; exact ⟨rfl, hSw⟩)) (h := ?_)
        simp only [Act.put, List.setIfInBounds_toArray, List.set_cons_zero, List.set_cons_succ]
        refine quietL (hy := fun E Wx hSw => by (go_simp; exact ⟨rfl, hSw⟩)) (h := ?_)
        simp only [Act.put, List.setIfInBounds_toArray, List.set_cons_zero, List.set_cons_succ]
        intro w202 S
        replace S : Sep w (boxR qb161 (.cells #[.string ⟨#[]⟩, .int .i64 0, .int .i64 0, .string ⟨#[]⟩, .bool false] 38) :: boxR qb151 (.cells #[.string ⟨#[]⟩, .int .i64 0, .int .i64 0, .string ⟨#[]⟩, .bool false] 38) :: boxR qb141 (.cells #[.string ⟨#[]⟩, .int .i64 0, .int .i64 0, .string ⟨#[]⟩, .bool false] 38) :: boxR qb1 (.cells #[.string ⟨#[]⟩, .int .i64 0, .int .i64 0, .string ⟨#[]⟩, .bool false] 38) :: boxR qa121 (.cells #[.int .i64 0, .int .i64 0, .string ⟨#[]⟩] 29) :: boxR qb122 (.cells #[.string typeError, .int .i64 0, .int .i64 0, .string ⟨#[]⟩, .bool false] 38) :: boxR qa111 (.cells #[.int .i64 0, .int .i64 0, .string ⟨#[]⟩] 29) :: boxR qb112 (.cells #[.string typeError, .int .i64 0, .int .i64 0, .string ⟨#[]⟩, .bool false] 38) :: boxR qa101 (.cells #[.int .i64 0, .int .i64 0, .string ⟨#[]⟩] 29) :: boxR qb102 (.cells #[.string typeError, .int .i64 0, .int .i64 0, .string ⟨#[]⟩, .bool false] 38) :: boxR qa91 (.cells #[.int .i64 0, .int .i64 0, .string ⟨#[]⟩] 29) :: boxR qb92 (.cells #[.string typeError, .int .i64 0, .int .i64 0, .string ⟨#[]⟩, .bool false] 38) :: boxR qq0_8 (.cells #[.int .i64 0, .int .i64 0, .string ⟨#[]⟩] 29) :: boxR qq1_8 (.cells #[.string typeError, .int .i64 0, .int .i64 0, .string ⟨#[]⟩, .bool false] 38) :: boxR qq0_7 (.cells #[.int .i64 0, .int .i64 0, .string ⟨#[]⟩] 29) :: boxR qq1_7 (.cells #[.string typeError, .int .i64 0, .int .i64 0, .string ⟨#[]⟩, .bool false] 38) :: boxR qQ1 (.cells #[.int .i64 2, .int .i64 5, .string ⟨#[]⟩, .int .i64 2, .int .i64 6, .string ⟨#[]⟩] 29) :: boxR qL3 (.cells #[.int .i64 4, .int .i64 1, .string ⟨#[]⟩] 29) :: heapR h H1 :: boxR qB1 (.cells #[.int .i64 vb.kind, .int .i64 vb.n, .string vb.s] 29) :: []) w202 := by rw [Hb20_200.out] at S; exact S
        clear Hb20_200 Kb20_200 K20_1 K20_4 K20_8 K20_12 K20_16 K20_20 K20_28 K20_37 K20_45 K20_53 K20_58 K20_65 K20_66 Cb20_200_0 Cb20_200_1 Cb20_200_2 Cb20_200_3 Cb20_200_4 Cb20_200_5 Cb20_200_6 Cb20_200_7 Cb20_200_8 Cb20_200_9 Cb20_200_10
        replace S := Lib.hid S.below
        go_wp2
        go_ret
        exact ⟨rfl, S.out⟩
set_option maxRecDepth 100000 in
theorem lifted (os : Os) (started : os.Started) (H : Type) (enc : TypeId × Value → H) :
    ReturnsInHanded {} Tryz.checked os 10 .any (Rows.operateKindsSpec.pre6 enc Tryz.prog Tryz.f10 Rows.operateKindsRow.domain false) (Rows.operateKindsSpec.post enc Tryz.prog Tryz.f10 false true false false) := by
  refine law_lift (C := Tryz.checked) own started (by kernel_rfl) Tryz.func10
    (ChangeSpec.witness6 (enc := enc) (C := Tryz.checked) false ⟨#[], #[.bool false, .int .i64 0, .string ⟨#[]⟩], []⟩ 8 (by kernel_rfl) (by kernel_rfl) (by kernel_rfl) (by kernel_rfl))
    (by kernel_rfl) (by kernel_rfl) rfl (fun ds h => by
      match ds, h with
      | [d1, d2, d3], _ => exact ⟨rfl, rfl, rfl⟩) rfl Tryz.underlying4 ?_
  intro W base args ds ps hval hA hlt hwt hsh
  rw [Tryz.params10] at hA hval
  obtain ⟨v0, vs0, d0, ds0, p0, q0, hargs, rfl, rfl, h0, r0⟩ := trodAll_cons hA
  obtain ⟨v1, vs1, d1, ds1, p1, q1, rfl, rfl, rfl, h1, r1⟩ := trodAll_cons r0
  obtain ⟨v2, vs2, d2, ds2, p2, q2, rfl, rfl, rfl, h2, r2⟩ := trodAll_cons r1
  obtain ⟨rfl, rfl, rfl⟩ := trodAll_nil r2
  obtain rfl : args = #[v0, v1, v2] := by cases args; simp_all
  obtain ⟨b0, rfl, rfl, rfl⟩ := open_bool Tryz.underlying4 (hval 0 4 v0 rfl rfl) h0
  obtain ⟨a1, rfl, rfl, rfl, w1⟩ := open_int Tryz.underlying2 (hval 1 2 v1 rfl rfl) h1
  obtain ⟨a2, rfl, rfl, rfl, w2⟩ := open_string Tryz.underlying9 (hval 2 9 v2 rfl rfl) h2
  -- WALK
  exact walk W b0 a1 a2 w1 w2
theorem proved : Rows.OperateKindsSaid :=
  OpenClaim.holds_of_wide 10 Tryz.f10 rfl rfl rfl rfl rfl rfl rfl ⟨rfl, rfl, rfl, rfl, rfl⟩ rfl rfl rfl rfl rfl (by kernel_rfl) Tryz.func10 (by kernel_rfl)
    (of_decide_eq_true (by kernel_rfl)) (by unfold Func.isWrapper; first | (rw [if_pos (by decide +kernel)]; kernel_rfl) | (rw [if_neg (by decide +kernel)]; exact ⟨rfl, rfl⟩))
    (fun os started H enc _ => lifted os started H enc)
#print axioms proved
end Go.Proofs.YtellmfimmghidaaGreat.operateKinds
