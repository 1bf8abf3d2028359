import Derived.Test.YtobcnffjfclolaaDoorObjE
/- Objects: missing, Of, open. -/
namespace Go.Proofs.YtobcnffjfclolaaDoor
set_option linter.unusedSimpArgs false
open Go.RowKit
set_option linter.unusedVariables false
section
variable {w W : World} {Rs : List Res} {h : Nat} {H : HeapM}
set_option maxRecDepth 100000 in
set_option maxHeartbeats 1600000 in
theorem of_ok (S : Sep w Rs W) (i : Nat) (hi : Rs[i]? = some (heapR h H)) (v : V) :
    Calls Tryd.prog 31 #[.pointer (some ⟨h, 0, none⟩), v.val] W fun e W' => e = .returned (.tuple #[((H.ofM v).getD V.zero).val, .bool (H.ofM v).isSome]) ∧ Sep w Rs W' := by
  obtain ⟨b, hb⟩ : ∃ gx_, (W.heap.size) = gx_ := ⟨_, rfl⟩
  have S1 := (S.alloc (.cells #[.int .i64 v.kind, .int .i64 v.n, .string v.s] 31)).alloc (.cells #[.int .i64 0, .int .i64 0, .string ⟨#[]⟩] 31)
  simp only [World.size_alloc, hb] at S1
  have C1 := S1.at_ (i + 2) (by simpa using hi) v 0 (by decide)
  have d0 := cellAt (S1.box (b := b) 1 rfl) 0 (v := .int .i64 v.kind) rfl
  have d1 := cellAt (S1.box (b := b) 1 rfl) 1 (v := .int .i64 v.n) rfl
  have d2 := cellAt (S1.box (b := b) 1 rfl) 2 (v := .string v.s) rfl
  have hof : H.ofM v = if H.kind v = 6 ∧ H.isClass ((H.at v 0).getD V.zero) = true then some ((H.at v 0).getD V.zero).asRef else none := rfl
  obtain ⟨x, hx⟩ : ∃ gx_, ((H.at v 0).getD V.zero) = gx_ := ⟨_, rfl⟩
  rw [hx] at C1 hof
  obtain ⟨bs, hbs⟩ : ∃ gx_, ((H.at v 0).isSome) = gx_ := ⟨_, rfl⟩
  rw [hbs] at C1
  obtain ⟨R, hR⟩ : ∃ gx_, (H.ofM v) = gx_ := ⟨_, rfl⟩
  rw [hR] at hof ⊢
  have FR : Hid (∀ W, Sep w (anyR (b + 1) :: valB b v :: Rs) W → Sep w Rs W) := Lib.hid fun W T => T.tail.tail
  have HI := Lib.hid hi
  have HO := Lib.hid hof
  simp only [V.val] at *
  replace C1 := Lib.hid C1
  clear S S1 hi hof hR hx hbs
  go_enter Tryd.func31, Tryd.ntmps31
  go_wp2_with fail
  try rw [hb]
  refine C1.out.mono ?_
  rintro e w1 ⟨rfl, S2, -⟩
  clear C1 d0 d1 d2 hb
  obtain ⟨c, hc⟩ : ∃ gx_, (w1.heap.size) = gx_ := ⟨_, rfl⟩
  have S3 := S2.alloc (.cells #[.int .i64 x.kind, .int .i64 x.n, .string x.s] 31)
  rw [hc] at S3
  have K := S3.kind (i + 3) (by simpa using HI.out) v
  have d0 := cellAt (S3.box (b := b) 2 rfl) 0 (v := .int .i64 v.kind) rfl
  have d1 := cellAt (S3.box (b := b) 2 rfl) 1 (v := .int .i64 v.n) rfl
  have d2 := cellAt (S3.box (b := b) 2 rfl) 2 (v := .string v.s) rfl
  obtain ⟨kd, hkd⟩ : ∃ gx_, (H.kind v) = gx_ := ⟨_, rfl⟩
  rw [hkd] at K HO
  simp only [V.val] at K
  replace K := Lib.hid K
  clear S2 S3 hkd
  go_wp2_with fail
  refine K.out.mono ?_
  rintro e w2 ⟨rfl, S4, -⟩
  clear K d0 d1 d2 hc
  by_cases hk : kd = 6
  · subst hk
    have C3 := isClass_ok S4 (i + 3) (by simpa using HI.out) x
    have e0 := cellAt (S4.box (b := c) 0 rfl) 0 (v := .int .i64 x.kind) rfl
    have e1 := cellAt (S4.box (b := c) 0 rfl) 1 (v := .int .i64 x.n) rfl
    have e2 := cellAt (S4.box (b := c) 0 rfl) 2 (v := .string x.s) rfl
    obtain ⟨kc, hkc⟩ : ∃ gx_, (H.isClass x) = gx_ := ⟨_, rfl⟩
    rw [hkc] at C3 HO
    simp only [V.val] at C3
    replace C3 := Lib.hid C3
    clear S4 hkc
    go_wp2_with fail
    refine C3.out.mono ?_
    rintro e w3 ⟨rfl, S5⟩
    clear C3 e0 e1 e2
    cases kc with
    | true =>
      have C4 := Lib.hid (oref_ok w3 x)
      simp only [V.val, V.asRef, V.ref] at C4
      have e0 := cellAt (S5.box (b := c) 0 rfl) 0 (v := .int .i64 x.kind) rfl
      have e1 := cellAt (S5.box (b := c) 0 rfl) 1 (v := .int .i64 x.n) rfl
      have e2 := cellAt (S5.box (b := c) 0 rfl) 2 (v := .string x.s) rfl
      replace S5 := Lib.hid S5
      have HR : Hid (R = some x.asRef) := Lib.hid (by rw [HO.out]; simp)
      clear HO
      go_wp2_with fail
      refine C4.out.mono ?_
      rintro e w4 ⟨rfl, hb4⟩
      have S6 := S5.out.later hb4
      clear C4 e0 e1 e2 hb4
      have hz := S6.box (b := b + 1) (o := .cells #[.int .i64 0, .int .i64 0, .string ⟨#[]⟩] 31) 1 rfl
      have S9 : Hid (Sep w (anyR (b + 1) :: valB b v :: Rs) _) := Lib.hid ((S6.tail).toAny 0 rfl)
      have x0 := cellAt hz 0 (v := .int .i64 0) rfl
      have x1 := cellAt hz 1 (v := .int .i64 0) rfl
      have x2 := cellAt hz 2 (v := .string ⟨#[]⟩) rfl
      have x3 := frozenAt hz 0
      have x4 := frozenAt hz 1
      have x5 := frozenAt hz 2
      clear hz S5 S6
      go_wp2
      refine bodyPost_ret (v := .tuple #[.agg #[.int .i64 4, .int .i64 x.n, .string ⟨#[]⟩], .bool true]) (by simp [results, Tryd.results31, go_sem, x0, x1, x2]) rfl ⟨by rw [HR.out]; rfl, FR.out _ ?_⟩
      iterate 3 refine Sep.poke (q := b + 1) ?_ 0 rfl _ _
      exact S9.out
    | false =>
      have HR : Hid (R = none) := Lib.hid (by rw [HO.out]; simp)
      clear HO
      have hz := S5.box (b := b + 1) (o := .cells #[.int .i64 0, .int .i64 0, .string ⟨#[]⟩] 31) 1 rfl
      have S9 : Hid (Sep w (anyR (b + 1) :: valB b v :: Rs) _) := Lib.hid ((S5.tail).toAny 0 rfl)
      have x0 := cellAt hz 0 (v := .int .i64 0) rfl
      have x1 := cellAt hz 1 (v := .int .i64 0) rfl
      have x2 := cellAt hz 2 (v := .string ⟨#[]⟩) rfl
      have x3 := frozenAt hz 0
      have x4 := frozenAt hz 1
      have x5 := frozenAt hz 2
      clear hz S5
      go_wp2
      refine bodyPost_ret (v := .tuple #[zeroV, .bool false]) (by simp [results, Tryd.results31, go_sem, x0, x1, x2]) rfl ⟨by rw [HR.out]; rfl, FR.out _ ?_⟩
      iterate 3 refine Sep.poke (q := b + 1) ?_ 0 rfl _ _
      exact S9.out
  · have HR : Hid (R = none) := Lib.hid (by rw [HO.out]; simp [hk])
    clear HO
    have hz := S4.box (b := b + 1) (o := .cells #[.int .i64 0, .int .i64 0, .string ⟨#[]⟩] 31) 1 rfl
    have S9 : Hid (Sep w (anyR (b + 1) :: valB b v :: Rs) _) := Lib.hid ((S4.tail).toAny 0 rfl)
    have x0 := cellAt hz 0 (v := .int .i64 0) rfl
    have x1 := cellAt hz 1 (v := .int .i64 0) rfl
    have x2 := cellAt hz 2 (v := .string ⟨#[]⟩) rfl
    have x3 := frozenAt hz 0
    have x4 := frozenAt hz 1
    have x5 := frozenAt hz 2
    clear hz S4
    go_wp2
    refine bodyPost_ret (v := .tuple #[zeroV, .bool false]) (by simp [results, Tryd.results31, go_sem, x0, x1, x2]) rfl ⟨by rw [HR.out]; rfl, FR.out _ ?_⟩
    iterate 3 refine Sep.poke (q := b + 1) ?_ 0 rfl _ _
    exact S9.out
end
end Go.Proofs.YtobcnffjfclolaaDoor
/- Objects: Instance. -/
namespace Go.Proofs.YtobcnffjfclolaaDoor
set_option linter.unusedSimpArgs false
open Go.RowKit
set_option linter.unusedVariables false
section
variable {w W : World} {Rs : List Res} {h : Nat} {H : HeapM}
set_option maxRecDepth 100000 in
set_option maxHeartbeats 1600000 in
theorem instance_ok (S : Sep w Rs W) (i : Nat) (hi : Rs[i]? = some (heapR h H)) {N : Nat} (F : H.Fit N) (hN : N + 1 ≤ 4000000) (v : V) (hs : (H.name v).size ≤ maxLen) (hc : H.isClass v = true) :
    Calls Tryd.prog 27 #[.pointer (some ⟨h, 0, none⟩), v.val] W fun e W' => e = .returned (.tuple #[.agg #[.int .i64 4, .int .i64 (H.last + 1), .string ⟨#[]⟩], .bool true]) ∧ Sep w (Rs.set i (heapR h (H.add (instO (H.name v) hs v)))) W' := by
  obtain ⟨b, hb⟩ : ∃ gx_, (W.heap.size) = gx_ := ⟨_, rfl⟩
  have S1 := (S.alloc (.cells #[.int .i64 v.kind, .int .i64 v.n, .string v.s] 31)).alloc (.cells #[.int .i64 0, .int .i64 0, .string ⟨#[]⟩] 31)
  simp only [World.size_alloc, hb] at S1
  have C1 := isClass_ok S1 (i + 2) (by simpa using hi) v
  rw [hc] at C1
  have d0 := cellAt (S1.box (b := b) 1 rfl) 0 (v := .int .i64 v.kind) rfl
  have d1 := cellAt (S1.box (b := b) 1 rfl) 1 (v := .int .i64 v.n) rfl
  have d2 := cellAt (S1.box (b := b) 1 rfl) 2 (v := .string v.s) rfl
  obtain ⟨base, hbase⟩ : ∃ base, base = zeroB (b + 1) :: valB b v :: Rs := ⟨_, rfl⟩
  have KN : Hid (∀ W (Q : List Res), Sep w (Q ++ base) W → Calls Tryd.prog 34 #[.pointer (some ⟨h, 0, none⟩), .agg #[.int .i64 v.kind, .int .i64 v.n, .string v.s]] W fun e W' => e = .returned (.string (H.name v)) ∧ Sep w (Q ++ base) W') := Lib.hid fun W Q T => by
    have h1 : (Q ++ base)[Q.length + (i + 2)]? = some (heapR h H) := by
      rw [List.getElem?_append_right (by omega), Nat.add_sub_cancel_left, hbase]; simpa using hi
    exact (T.name _ h1 v).mono fun e W' ⟨e1, e2, _⟩ => ⟨e1, e2⟩
  have KR : Hid (∀ W (Q : List Res), Sep w (Q ++ base) W → Calls Tryd.prog 53 #[.agg #[.int .i64 v.kind, .int .i64 v.n, .string v.s]] W fun e W' => e = .returned (.agg #[.int .i64 4, .int .i64 v.n, .string ⟨#[]⟩]) ∧ Sep w (Q ++ base) W') := Lib.hid fun W Q T => (oref_ok W v).mono fun e W' ⟨e1, e2⟩ => ⟨e1, T.later e2⟩
  have hn : okI v.n := v.hn
  have KM : Hid (∀ W q, Sep w (valB q v.asRef :: base) W → Calls Tryd.prog 24 #[.pointer (some ⟨h, 0, none⟩), .int .i64 6, .string (H.name v), .int .i64 0, .slice (some ⟨q, 0, none⟩) 1 1] W fun e W' => e = .returned (.agg #[.int .i64 4, .int .i64 (H.last + 1), .string ⟨#[]⟩]) ∧ Sep w (valB q v.asRef :: zeroB (b + 1) :: valB b v :: Rs.set i (heapR h (H.add (instO (H.name v) hs v)))) W') := Lib.hid fun W q T => by
    rw [hbase] at T
    have hone := sees_one (f := V.cells) (m := 3) (y := v.asRef) (T.box (b := q) 0 rfl) rfl
    have hsv : SeesV W (.slice (some ⟨q, 0, none⟩) 1 1) [v.asRef] := by
      refine ⟨_, _, rfl, by simp, by simp [maxLen], .inr ⟨q, 0, rfl, fun j x hj => ?_⟩⟩
      match j, hj with
      | 0, hj =>
        simp at hj; subst hj
        have hq := T.box (b := q) 0 rfl
        exact ⟨cellAt hq 0 rfl, cellAt hq 1 rfl, cellAt hq 2 rfl⟩
    have := T.make (i + 3) (by simpa using hi) F.G hN (instO (H.name v) hs v) _ hsv (by simp [instO]) rfl (by show (1 : Int) ≤ 6; decide) (by show (6 : Int) ≤ 12; decide)
    simp only [List.set_cons_succ] at this
    exact this
  have HBASE := Lib.hid hbase
  simp only [V.val] at C1
  simp only [V.val]
  replace C1 := Lib.hid C1
  clear S S1 hbase
  go_enter Tryd.func27, Tryd.ntmps27
  go_wp2_with fail
  try rw [hb]
  refine C1.out.mono ?_
  rintro e w1 ⟨rfl, S3⟩
  clear C1 d0 d1 d2 hb
  have S4 : Sep w ([] ++ base) w1 := by rw [HBASE.out]; exact S3
  have d0 := cellAt (S3.box (b := b) 1 rfl) 0 (v := .int .i64 v.kind) rfl
  have d1 := cellAt (S3.box (b := b) 1 rfl) 1 (v := .int .i64 v.n) rfl
  have d2 := cellAt (S3.box (b := b) 1 rfl) 2 (v := .string v.s) rfl
  have HEND : Hid (∀ W q, Sep w (valB q v.asRef :: zeroB (b + 1) :: valB b v :: Rs.set i (heapR h (H.add (instO (H.name v) hs v)))) W → W.heap[b + 1]? = some (.cells #[.int .i64 0, .int .i64 0, .string ⟨#[]⟩] 31) ∧ Sep w (anyR (b + 1) :: valB b v :: Rs.set i (heapR h (H.add (instO (H.name v) hs v)))) W) := Lib.hid fun W q T => ⟨T.box 1 rfl, T.tail.toAny 0 rfl⟩
  have KK : Hid (∀ W, Sep w ([] ++ base) W → W.cell? ⟨b, 0, none⟩ = some (.int .i64 v.kind) ∧ W.cell? ⟨b, 1, none⟩ = some (.int .i64 v.n) ∧ W.cell? ⟨b, 2, none⟩ = some (.string v.s)) := Lib.hid fun W T => by
    rw [HBASE.out] at T
    have h := T.box (b := b) 1 rfl
    exact ⟨cellAt h 0 rfl, cellAt h 1 rfl, cellAt h 2 rfl⟩
  have KK2 : Hid (∀ W R, Sep w ([R] ++ base) W → W.cell? ⟨b, 0, none⟩ = some (.int .i64 v.kind) ∧ W.cell? ⟨b, 1, none⟩ = some (.int .i64 v.n) ∧ W.cell? ⟨b, 2, none⟩ = some (.string v.s)) := Lib.hid fun W R T => KK.out _ T.tail
  have KK3 : Hid (∀ W q, Sep w (valB q v.asRef :: zeroB (b + 1) :: valB b v :: Rs.set i (heapR h (H.add (instO (H.name v) hs v)))) W → W.cell? ⟨b, 0, none⟩ = some (.int .i64 v.kind) ∧ W.cell? ⟨b, 1, none⟩ = some (.int .i64 v.n) ∧ W.cell? ⟨b, 2, none⟩ = some (.string v.s)) := Lib.hid fun W q T => by
    have h := T.box (b := b) 2 rfl
    exact ⟨cellAt h 0 rfl, cellAt h 1 rfl, cellAt h 2 rfl⟩
  have KK4 : Hid (∀ W, Sep w (anyR (b + 1) :: valB b v :: Rs.set i (heapR h (H.add (instO (H.name v) hs v)))) W → W.cell? ⟨b, 0, none⟩ = some (.int .i64 v.kind) ∧ W.cell? ⟨b, 1, none⟩ = some (.int .i64 v.n) ∧ W.cell? ⟨b, 2, none⟩ = some (.string v.s)) := Lib.hid fun W T => by
    have h := T.box (b := b) 1 rfl
    exact ⟨cellAt h 0 rfl, cellAt h 1 rfl, cellAt h 2 rfl⟩
  replace S4 := Lib.hid S4
  clear S3
  go_upto_region 3 with fail
  go_cut [5] (fun s5 wx => s5 = .bool true ∧ wx.cell? ⟨b + 1, 0, none⟩ = some (.int .i64 4) ∧ wx.cell? ⟨b + 1, 1, none⟩ = some (.int .i64 (H.last + 1)) ∧ wx.cell? ⟨b + 1, 2, none⟩ = some (.string ⟨#[]⟩) ∧ Sep w (anyR (b + 1) :: valB b v :: Rs.set i (heapR h (H.add (instO (H.name v) hs v)))) wx)
  case first =>
    have T0 := S4.out
    clear S4
    go_region_held3 (fun W => W.cell? ⟨b, 0, none⟩ = some (.int .i64 v.kind) ∧ W.cell? ⟨b, 1, none⟩ = some (.int .i64 v.n) ∧ W.cell? ⟨b, 2, none⟩ = some (.string v.s))
      (first | exact KK.out _ (by assumption) | exact KK.out _ (Sep.drew (by assumption)) | exact KK2.out _ _ (by assumption) | exact KK.out _ (Sep.tail (Sep.alloc (by assumption) _)) | exact KK3.out _ _ (by assumption) | exact KK4.out _ (by (iterate 3 refine Sep.poke (q := b + 1) ?_ 0 rfl _ _); exact (HEND.out _ _ (by assumption)).2))
      (first
        | (go_at_call 34; refine (KN.out _ [] (by first | assumption | exact Sep.drew (by assumption))).mono ?_; rintro e w6 ⟨rfl, T1⟩)
        | (go_at_call 34; refine (KN.out _ [_] (Sep.alloc (by assumption) _)).mono ?_; rintro e w6 ⟨rfl, T1⟩)
        | (go_at_call 53; refine (KR.out _ [] (by first | assumption | exact Sep.drew (by assumption))).mono ?_; rintro e w6 ⟨rfl, T1⟩)
        | (go_at_call 24; refine (KM.out _ _ (by first | assumption | exact Sep.alloc (by assumption) _)).mono ?_; rintro e w6 ⟨rfl, T1⟩; have hz := (HEND.out _ _ T1).1; have z0 := cellAt hz 0 (v := .int .i64 0) rfl; have z1 := cellAt hz 1 (v := .int .i64 0) rfl; have z2 := cellAt hz 2 (v := .string ⟨#[]⟩) rfl; have z3 := frozenAt hz 0; have z4 := frozenAt hz 1; have z5 := frozenAt hz 2; clear hz))
    all_goals (go_wp2_with fail; go_meet; refine ⟨rfl, by simp [go_sem, *], by simp [go_sem, *], by simp [go_sem, *], ?_⟩; (iterate 3 refine Sep.poke (q := b + 1) ?_ 0 rfl _ _); exact (HEND.out _ _ (by assumption)).2)
  case rest =>
    obtain ⟨rfl, z0, z1, z2, S9⟩ := hcut
    have S10 := Lib.hid S9.tail.tail
    clear S9
    go_wp2
    exact bodyPost_ret (v := .tuple #[.agg #[.int .i64 4, .int .i64 (H.last + 1), .string ⟨#[]⟩], .bool true]) (by simp [results, Tryd.results27, go_sem, z0, z1, z2]) rfl ⟨rfl, S10.out⟩
end
end Go.Proofs.YtobcnffjfclolaaDoor
/- Objects: bound. -/
namespace Go.Proofs.YtobcnffjfclolaaDoor
set_option linter.unusedSimpArgs false
open Go.RowKit
set_option linter.unusedVariables false
section
variable {w W : World} {Rs : List Res} {h : Nat} {H : HeapM}
end
end Go.Proofs.YtobcnffjfclolaaDoor
/- Objects: Instance and bound, where nothing is made. -/
namespace Go.Proofs.YtobcnffjfclolaaDoor
set_option linter.unusedSimpArgs false
open Go.RowKit
set_option linter.unusedVariables false
section
variable {w W : World} {Rs : List Res} {h : Nat} {H : HeapM}
end
end Go.Proofs.YtobcnffjfclolaaDoor
/- Objects: bound in one, Special. -/
namespace Go.Proofs.YtobcnffjfclolaaDoor
set_option linter.unusedSimpArgs false
open Go.RowKit
set_option linter.unusedVariables false
theorem HeapM.name_le (H : HeapM) (v : V) : (H.name v).size ≤ maxLen := by
  unfold HeapM.name
  cases H.of v with
  | none => exact Nat.zero_le _
  | some o => exact o.hs
section
variable {w W : World} {Rs : List Res} {h : Nat} {H : HeapM}
end
end Go.Proofs.YtobcnffjfclolaaDoor
