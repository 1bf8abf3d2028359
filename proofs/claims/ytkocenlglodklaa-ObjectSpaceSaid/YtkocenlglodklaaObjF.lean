import Derived.Test.YtkocenlglodklaaObjE
/- Objects: missing, Of, open. -/
namespace Go.Proofs.Ytkocenlglodklaa
set_option linter.unusedSimpArgs false
open Go.RowKit
set_option linter.unusedVariables false
abbrev attrError : ByteArray := ⟨#[65, 116, 116, 114, 105, 98, 117, 116, 101, 69, 114, 114, 111, 114]⟩
abbrev excA (s : ByteArray) : Value := .agg #[.string attrError, .int .i64 3, .int .i64 0, .string s, .bool true]
section
variable {w W : World} {Rs : List Res} {h : Nat} {H : HeapM}
set_option maxRecDepth 100000 in
set_option maxHeartbeats 1600000 in
theorem of_ok (S : Sep w Rs W) (i : Nat) (hi : Rs[i]? = some (heapR h H)) (v : V) :
    Calls Try.prog 40 #[.pointer (some ⟨h, 0, none⟩), v.val] W fun e W' => e = .returned (.tuple #[((H.ofM v).getD V.zero).val, .bool (H.ofM v).isSome]) ∧ Sep w Rs W' := by
  obtain ⟨b, hb⟩ : ∃ gx_, (W.heap.size) = gx_ := ⟨_, rfl⟩
  have S1 := (S.alloc (.cells #[.int .i64 v.kind, .int .i64 v.n, .string v.s] 33)).alloc (.cells #[.int .i64 0, .int .i64 0, .string ⟨#[]⟩] 33)
  simp only [World.size_alloc, hb] at S1
  have C1 := S1.at_ (i + 2) (by simpa using hi) v 0 (by decide)
  have d0 := cellAt (S1.box (b := b) 1 rfl) 0 (v := .int .i64 v.kind) rfl
  have d1 := cellAt (S1.box (b := b) 1 rfl) 1 (v := .int .i64 v.n) rfl
  have d2 := cellAt (S1.box (b := b) 1 rfl) 2 (v := .string v.s) rfl
  have hof : H.ofM v = if H.kind v = 6 ∧ H.isClass ((H.at v 0).getD V.zero) = true then some ((H.at v 0).getD V.zero).asRef else none := rfl
  obtain ⟨x, hx⟩ : ∃ gx_, ((H.at v 0).getD V.zero) = gx_ := ⟨_, rfl⟩
  rw [hx] at C1 hof
  obtain ⟨bs, hbs⟩ : ∃ gx_, ((H.at v 0).isSome) = gx_ := ⟨_, rfl⟩
  rw [hbs] at C1
  obtain ⟨R, hR⟩ : ∃ gx_, (H.ofM v) = gx_ := ⟨_, rfl⟩
  rw [hR] at hof ⊢
  have FR : Hid (∀ W, Sep w (anyR (b + 1) :: valB b v :: Rs) W → Sep w Rs W) := Lib.hid fun W T => T.tail.tail
  have HI := Lib.hid hi
  have HO := Lib.hid hof
  simp only [V.val] at *
  replace C1 := Lib.hid C1
  clear S S1 hi hof hR hx hbs
  go_enter Try.func40, Try.ntmps40
  go_wp2_with fail
  try rw [hb]
  refine C1.out.mono ?_
  rintro e w1 ⟨rfl, S2, -⟩
  clear C1 d0 d1 d2 hb
  obtain ⟨c, hc⟩ : ∃ gx_, (w1.heap.size) = gx_ := ⟨_, rfl⟩
  have S3 := S2.alloc (.cells #[.int .i64 x.kind, .int .i64 x.n, .string x.s] 33)
  rw [hc] at S3
  have K := S3.kind (i + 3) (by simpa using HI.out) v
  have d0 := cellAt (S3.box (b := b) 2 rfl) 0 (v := .int .i64 v.kind) rfl
  have d1 := cellAt (S3.box (b := b) 2 rfl) 1 (v := .int .i64 v.n) rfl
  have d2 := cellAt (S3.box (b := b) 2 rfl) 2 (v := .string v.s) rfl
  obtain ⟨kd, hkd⟩ : ∃ gx_, (H.kind v) = gx_ := ⟨_, rfl⟩
  rw [hkd] at K HO
  simp only [V.val] at K
  replace K := Lib.hid K
  clear S2 S3 hkd
  go_wp2_with fail
  refine K.out.mono ?_
  rintro e w2 ⟨rfl, S4, -⟩
  clear K d0 d1 d2 hc
  by_cases hk : kd = 6
  · subst hk
    have C3 := isClass_ok S4 (i + 3) (by simpa using HI.out) x
    have e0 := cellAt (S4.box (b := c) 0 rfl) 0 (v := .int .i64 x.kind) rfl
    have e1 := cellAt (S4.box (b := c) 0 rfl) 1 (v := .int .i64 x.n) rfl
    have e2 := cellAt (S4.box (b := c) 0 rfl) 2 (v := .string x.s) rfl
    obtain ⟨kc, hkc⟩ : ∃ gx_, (H.isClass x) = gx_ := ⟨_, rfl⟩
    rw [hkc] at C3 HO
    simp only [V.val] at C3
    replace C3 := Lib.hid C3
    clear S4 hkc
    go_wp2_with fail
    refine C3.out.mono ?_
    rintro e w3 ⟨rfl, S5⟩
    clear C3 e0 e1 e2
    cases kc with
    | true =>
      have C4 := Lib.hid (oref_ok w3 x)
      simp only [V.val, V.asRef, V.ref] at C4
      have e0 := cellAt (S5.box (b := c) 0 rfl) 0 (v := .int .i64 x.kind) rfl
      have e1 := cellAt (S5.box (b := c) 0 rfl) 1 (v := .int .i64 x.n) rfl
      have e2 := cellAt (S5.box (b := c) 0 rfl) 2 (v := .string x.s) rfl
      replace S5 := Lib.hid S5
      have HR : Hid (R = some x.asRef) := Lib.hid (by rw [HO.out]; simp)
      clear HO
      go_wp2_with fail
      refine C4.out.mono ?_
      rintro e w4 ⟨rfl, hb4⟩
      have S6 := S5.out.later hb4
      clear C4 e0 e1 e2 hb4
      have hz := S6.box (b := b + 1) (o := .cells #[.int .i64 0, .int .i64 0, .string ⟨#[]⟩] 33) 1 rfl
      have S9 : Hid (Sep w (anyR (b + 1) :: valB b v :: Rs) _) := Lib.hid ((S6.tail).toAny 0 rfl)
      have x0 := cellAt hz 0 (v := .int .i64 0) rfl
      have x1 := cellAt hz 1 (v := .int .i64 0) rfl
      have x2 := cellAt hz 2 (v := .string ⟨#[]⟩) rfl
      have x3 := frozenAt hz 0
      have x4 := frozenAt hz 1
      have x5 := frozenAt hz 2
      clear hz S5 S6
      go_wp2
      refine bodyPost_ret (v := .tuple #[.agg #[.int .i64 4, .int .i64 x.n, .string ⟨#[]⟩], .bool true]) (by simp [results, Try.results40, go_sem, x0, x1, x2]) rfl ⟨by rw [HR.out]; rfl, FR.out _ ?_⟩
      iterate 3 refine Sep.poke (q := b + 1) ?_ 0 rfl _ _
      exact S9.out
    | false =>
      have HR : Hid (R = none) := Lib.hid (by rw [HO.out]; simp)
      clear HO
      have hz := S5.box (b := b + 1) (o := .cells #[.int .i64 0, .int .i64 0, .string ⟨#[]⟩] 33) 1 rfl
      have S9 : Hid (Sep w (anyR (b + 1) :: valB b v :: Rs) _) := Lib.hid ((S5.tail).toAny 0 rfl)
      have x0 := cellAt hz 0 (v := .int .i64 0) rfl
      have x1 := cellAt hz 1 (v := .int .i64 0) rfl
      have x2 := cellAt hz 2 (v := .string ⟨#[]⟩) rfl
      have x3 := frozenAt hz 0
      have x4 := frozenAt hz 1
      have x5 := frozenAt hz 2
      clear hz S5
      go_wp2
      refine bodyPost_ret (v := .tuple #[zeroV, .bool false]) (by simp [results, Try.results40, go_sem, x0, x1, x2]) rfl ⟨by rw [HR.out]; rfl, FR.out _ ?_⟩
      iterate 3 refine Sep.poke (q := b + 1) ?_ 0 rfl _ _
      exact S9.out
  · have HR : Hid (R = none) := Lib.hid (by rw [HO.out]; simp [hk])
    clear HO
    have hz := S4.box (b := b + 1) (o := .cells #[.int .i64 0, .int .i64 0, .string ⟨#[]⟩] 33) 1 rfl
    have S9 : Hid (Sep w (anyR (b + 1) :: valB b v :: Rs) _) := Lib.hid ((S4.tail).toAny 0 rfl)
    have x0 := cellAt hz 0 (v := .int .i64 0) rfl
    have x1 := cellAt hz 1 (v := .int .i64 0) rfl
    have x2 := cellAt hz 2 (v := .string ⟨#[]⟩) rfl
    have x3 := frozenAt hz 0
    have x4 := frozenAt hz 1
    have x5 := frozenAt hz 2
    clear hz S4
    go_wp2
    refine bodyPost_ret (v := .tuple #[zeroV, .bool false]) (by simp [results, Try.results40, go_sem, x0, x1, x2]) rfl ⟨by rw [HR.out]; rfl, FR.out _ ?_⟩
    iterate 3 refine Sep.poke (q := b + 1) ?_ 0 rfl _ _
    exact S9.out
set_option maxRecDepth 100000 in
set_option maxHeartbeats 1600000 in
theorem missing_ok (S : Sep w Rs W) (s : ByteArray) : Calls Try.prog 52 #[.string s] W fun e W' => e = .returned (excA s) ∧ Sep w Rs W' := by
  obtain ⟨b, hb⟩ : ∃ gx_, (W.heap.size) = gx_ := ⟨_, rfl⟩
  have S1 := S.alloc (.cells #[.string ⟨#[]⟩, .int .i64 0, .int .i64 0, .string ⟨#[]⟩, .bool false] 45)
  rw [hb] at S1
  have C := Lib.hid (key_ok (W.alloc (.cells #[.string ⟨#[]⟩, .int .i64 0, .int .i64 0, .string ⟨#[]⟩, .bool false] 45)) s)
  replace S1 := Lib.hid S1
  clear S
  go_enter Try.func52, Try.ntmps52
  go_wp2_with fail
  try rw [hb]
  refine C.out.mono ?_
  rintro e w1 ⟨rfl, hb1⟩
  have S2 := S1.out.later hb1
  have e2 := S2.box (b := b) 0 rfl
  have S9 : Hid (Sep w (anyR b :: Rs) _) := Lib.hid (S2.toAny 0 rfl)
  have y0 := cellAt e2 0 (v := .string ⟨#[]⟩) rfl
  have y1 := cellAt e2 1 (v := .int .i64 0) rfl
  have y2 := cellAt e2 2 (v := .int .i64 0) rfl
  have y3 := cellAt e2 3 (v := .string ⟨#[]⟩) rfl
  have y4 := cellAt e2 4 (v := .bool false) rfl
  have y5 := frozenAt e2 0
  have y6 := frozenAt e2 1
  have y7 := frozenAt e2 2
  have y8 := frozenAt e2 3
  have y9 := frozenAt e2 4
  have FR : Hid (∀ W, Sep w (anyR b :: Rs) W → Sep w Rs W) := Lib.hid fun W T => T.tail
  clear C S1 S2 hb1 e2 hb
  go_wp2
  refine bodyPost_ret (v := excA s) (by simp [results, Try.results52, go_sem, y0, y1, y2, y3, y4]) rfl ⟨rfl, FR.out _ ?_⟩
  iterate 5 refine Sep.poke (q := b) ?_ 0 rfl _ _
  exact S9.out
set_option maxRecDepth 100000 in
set_option maxHeartbeats 1600000 in
theorem open_ok (S : Sep w Rs W) (i : Nat) (hi : Rs[i]? = some (heapR h H)) (v : V) :
    Calls Try.prog 51 #[.pointer (some ⟨h, 0, none⟩), v.val] W fun e W' => e = .returned (.bool (H.opens v)) ∧ Sep w Rs W' := by
  obtain ⟨b, hb⟩ : ∃ gx_, (W.heap.size) = gx_ := ⟨_, rfl⟩
  have S1 := S.alloc (.cells #[.int .i64 v.kind, .int .i64 v.n, .string v.s] 33)
  rw [hb] at S1
  have C1 := of_ok S1 (i + 1) (by simpa using hi) v
  have d0 := cellAt (S1.box (b := b) 0 rfl) 0 (v := .int .i64 v.kind) rfl
  have d1 := cellAt (S1.box (b := b) 0 rfl) 1 (v := .int .i64 v.n) rfl
  have d2 := cellAt (S1.box (b := b) 0 rfl) 2 (v := .string v.s) rfl
  have hof : H.opens v = ((H.ofM v).isSome || H.isClass v) := rfl
  obtain ⟨R, hR⟩ : ∃ gx_, (H.ofM v) = gx_ := ⟨_, rfl⟩
  rw [hR] at hof C1
  obtain ⟨x, hx⟩ : ∃ gx_, (R.getD V.zero) = gx_ := ⟨_, rfl⟩
  rw [hx] at C1
  obtain ⟨bs, hbs⟩ : ∃ gx_, (R.isSome) = gx_ := ⟨_, rfl⟩
  rw [hbs] at C1 hof
  obtain ⟨kc, hkc⟩ : ∃ gx_, (H.isClass v) = gx_ := ⟨_, rfl⟩
  rw [hkc] at hof
  rw [hof]
  have HKC := Lib.hid hkc
  have HI := Lib.hid hi
  simp only [V.val] at *
  replace C1 := Lib.hid C1
  clear S S1 hi hof hR hx hbs hkc
  go_enter Try.func51, Try.ntmps51
  go_wp2_with fail
  try rw [hb]
  refine C1.out.mono ?_
  rintro e w1 ⟨rfl, S2⟩
  clear C1 d0 d1 d2 hb
  obtain ⟨c, hc⟩ : ∃ gx_, (w1.heap.size) = gx_ := ⟨_, rfl⟩
  have S3 := S2.alloc (.cells #[.int .i64 x.kind, .int .i64 x.n, .string x.s] 33)
  rw [hc] at S3
  cases bs with
  | true =>
    have S4 := Lib.hid S3.tail.tail
    clear S2 S3
    go_wp2
    go_ret
    exact ⟨by simp, S4.out⟩
  | false =>
    have K := isClass_ok S3 (i + 2) (by simpa using HI.out) v
    have d0 := cellAt (S3.box (b := b) 1 rfl) 0 (v := .int .i64 v.kind) rfl
    have d1 := cellAt (S3.box (b := b) 1 rfl) 1 (v := .int .i64 v.n) rfl
    have d2 := cellAt (S3.box (b := b) 1 rfl) 2 (v := .string v.s) rfl
    rw [HKC.out] at K
    simp only [V.val] at K
    replace K := Lib.hid K
    clear S2 S3
    go_wp2_with fail
    refine K.out.mono ?_
    rintro e w2 ⟨rfl, S4⟩
    have S5 := Lib.hid S4.tail.tail
    clear K d0 d1 d2 hc S4
    go_wp2
    go_ret
    exact ⟨by simp, S5.out⟩
end
end Go.Proofs.Ytkocenlglodklaa
/- Objects: Instance. -/
namespace Go.Proofs.Ytkocenlglodklaa
set_option linter.unusedSimpArgs false
open Go.RowKit
set_option linter.unusedVariables false
section
variable {w W : World} {Rs : List Res} {h : Nat} {H : HeapM}
set_option maxRecDepth 100000 in
set_option maxHeartbeats 1600000 in
theorem instance_ok (S : Sep w Rs W) (i : Nat) (hi : Rs[i]? = some (heapR h H)) {N : Nat} (F : H.Fit N) (hN : N + 1 ≤ 4000000) (v : V) (hs : (H.name v).size ≤ maxLen) (hc : H.isClass v = true) :
    Calls Try.prog 18 #[.pointer (some ⟨h, 0, none⟩), v.val] W fun e W' => e = .returned (.tuple #[.agg #[.int .i64 4, .int .i64 (H.last + 1), .string ⟨#[]⟩], .bool true]) ∧ Sep w (Rs.set i (heapR h (H.add (instO (H.name v) hs v)))) W' := by
  obtain ⟨b, hb⟩ : ∃ gx_, (W.heap.size) = gx_ := ⟨_, rfl⟩
  have S1 := (S.alloc (.cells #[.int .i64 v.kind, .int .i64 v.n, .string v.s] 33)).alloc (.cells #[.int .i64 0, .int .i64 0, .string ⟨#[]⟩] 33)
  simp only [World.size_alloc, hb] at S1
  have C1 := isClass_ok S1 (i + 2) (by simpa using hi) v
  rw [hc] at C1
  have d0 := cellAt (S1.box (b := b) 1 rfl) 0 (v := .int .i64 v.kind) rfl
  have d1 := cellAt (S1.box (b := b) 1 rfl) 1 (v := .int .i64 v.n) rfl
  have d2 := cellAt (S1.box (b := b) 1 rfl) 2 (v := .string v.s) rfl
  obtain ⟨base, hbase⟩ : ∃ base, base = zeroB (b + 1) :: valB b v :: Rs := ⟨_, rfl⟩
  have KN : Hid (∀ W (Q : List Res), Sep w (Q ++ base) W → Calls Try.prog 24 #[.pointer (some ⟨h, 0, none⟩), .agg #[.int .i64 v.kind, .int .i64 v.n, .string v.s]] W fun e W' => e = .returned (.string (H.name v)) ∧ Sep w (Q ++ base) W') := Lib.hid fun W Q T => by
    have h1 : (Q ++ base)[Q.length + (i + 2)]? = some (heapR h H) := by
      rw [List.getElem?_append_right (by omega), Nat.add_sub_cancel_left, hbase]; simpa using hi
    exact (T.name _ h1 v).mono fun e W' ⟨e1, e2, _⟩ => ⟨e1, e2⟩
  have KR : Hid (∀ W (Q : List Res), Sep w (Q ++ base) W → Calls Try.prog 46 #[.agg #[.int .i64 v.kind, .int .i64 v.n, .string v.s]] W fun e W' => e = .returned (.agg #[.int .i64 4, .int .i64 v.n, .string ⟨#[]⟩]) ∧ Sep w (Q ++ base) W') := Lib.hid fun W Q T => (oref_ok W v).mono fun e W' ⟨e1, e2⟩ => ⟨e1, T.later e2⟩
  have hn : okI v.n := v.hn
  have KM : Hid (∀ W q, Sep w (valB q v.asRef :: base) W → Calls Try.prog 19 #[.pointer (some ⟨h, 0, none⟩), .int .i64 6, .string (H.name v), .int .i64 0, .slice (some ⟨q, 0, none⟩) 1 1] W fun e W' => e = .returned (.agg #[.int .i64 4, .int .i64 (H.last + 1), .string ⟨#[]⟩]) ∧ Sep w (valB q v.asRef :: zeroB (b + 1) :: valB b v :: Rs.set i (heapR h (H.add (instO (H.name v) hs v)))) W') := Lib.hid fun W q T => by
    rw [hbase] at T
    have hone := sees_one (f := V.cells) (m := 3) (y := v.asRef) (T.box (b := q) 0 rfl) rfl
    have hsv : SeesV W (.slice (some ⟨q, 0, none⟩) 1 1) [v.asRef] := by
      refine ⟨_, _, rfl, by simp, by simp [maxLen], .inr ⟨q, 0, rfl, fun j x hj => ?_⟩⟩
      match j, hj with
      | 0, hj =>
        simp at hj; subst hj
        have hq := T.box (b := q) 0 rfl
        exact ⟨cellAt hq 0 rfl, cellAt hq 1 rfl, cellAt hq 2 rfl⟩
    have := T.make (i + 3) (by simpa using hi) F.G hN (instO (H.name v) hs v) _ hsv (by simp [instO]) rfl (by show (1 : Int) ≤ 6; decide) (by show (6 : Int) ≤ 12; decide)
    simp only [List.set_cons_succ] at this
    exact this
  have HBASE := Lib.hid hbase
  simp only [V.val] at C1
  simp only [V.val]
  replace C1 := Lib.hid C1
  clear S S1 hbase
  go_enter Try.func18, Try.ntmps18
  go_wp2_with fail
  try rw [hb]
  refine C1.out.mono ?_
  rintro e w1 ⟨rfl, S3⟩
  clear C1 d0 d1 d2 hb
  have S4 : Sep w ([] ++ base) w1 := by rw [HBASE.out]; exact S3
  have d0 := cellAt (S3.box (b := b) 1 rfl) 0 (v := .int .i64 v.kind) rfl
  have d1 := cellAt (S3.box (b := b) 1 rfl) 1 (v := .int .i64 v.n) rfl
  have d2 := cellAt (S3.box (b := b) 1 rfl) 2 (v := .string v.s) rfl
  have HEND : Hid (∀ W q, Sep w (valB q v.asRef :: zeroB (b + 1) :: valB b v :: Rs.set i (heapR h (H.add (instO (H.name v) hs v)))) W → W.heap[b + 1]? = some (.cells #[.int .i64 0, .int .i64 0, .string ⟨#[]⟩] 33) ∧ Sep w (anyR (b + 1) :: valB b v :: Rs.set i (heapR h (H.add (instO (H.name v) hs v)))) W) := Lib.hid fun W q T => ⟨T.box 1 rfl, T.tail.toAny 0 rfl⟩
  have KK : Hid (∀ W, Sep w ([] ++ base) W → W.cell? ⟨b, 0, none⟩ = some (.int .i64 v.kind) ∧ W.cell? ⟨b, 1, none⟩ = some (.int .i64 v.n) ∧ W.cell? ⟨b, 2, none⟩ = some (.string v.s)) := Lib.hid fun W T => by
    rw [HBASE.out] at T
    have h := T.box (b := b) 1 rfl
    exact ⟨cellAt h 0 rfl, cellAt h 1 rfl, cellAt h 2 rfl⟩
  have KK2 : Hid (∀ W R, Sep w ([R] ++ base) W → W.cell? ⟨b, 0, none⟩ = some (.int .i64 v.kind) ∧ W.cell? ⟨b, 1, none⟩ = some (.int .i64 v.n) ∧ W.cell? ⟨b, 2, none⟩ = some (.string v.s)) := Lib.hid fun W R T => KK.out _ T.tail
  have KK3 : Hid (∀ W q, Sep w (valB q v.asRef :: zeroB (b + 1) :: valB b v :: Rs.set i (heapR h (H.add (instO (H.name v) hs v)))) W → W.cell? ⟨b, 0, none⟩ = some (.int .i64 v.kind) ∧ W.cell? ⟨b, 1, none⟩ = some (.int .i64 v.n) ∧ W.cell? ⟨b, 2, none⟩ = some (.string v.s)) := Lib.hid fun W q T => by
    have h := T.box (b := b) 2 rfl
    exact ⟨cellAt h 0 rfl, cellAt h 1 rfl, cellAt h 2 rfl⟩
  have KK4 : Hid (∀ W, Sep w (anyR (b + 1) :: valB b v :: Rs.set i (heapR h (H.add (instO (H.name v) hs v)))) W → W.cell? ⟨b, 0, none⟩ = some (.int .i64 v.kind) ∧ W.cell? ⟨b, 1, none⟩ = some (.int .i64 v.n) ∧ W.cell? ⟨b, 2, none⟩ = some (.string v.s)) := Lib.hid fun W T => by
    have h := T.box (b := b) 1 rfl
    exact ⟨cellAt h 0 rfl, cellAt h 1 rfl, cellAt h 2 rfl⟩
  replace S4 := Lib.hid S4
  clear S3
  go_upto_region 3 with fail
  go_cut [5] (fun s5 wx => s5 = .bool true ∧ wx.cell? ⟨b + 1, 0, none⟩ = some (.int .i64 4) ∧ wx.cell? ⟨b + 1, 1, none⟩ = some (.int .i64 (H.last + 1)) ∧ wx.cell? ⟨b + 1, 2, none⟩ = some (.string ⟨#[]⟩) ∧ Sep w (anyR (b + 1) :: valB b v :: Rs.set i (heapR h (H.add (instO (H.name v) hs v)))) wx)
  case first =>
    have T0 := S4.out
    clear S4
    go_region_held3 (fun W => W.cell? ⟨b, 0, none⟩ = some (.int .i64 v.kind) ∧ W.cell? ⟨b, 1, none⟩ = some (.int .i64 v.n) ∧ W.cell? ⟨b, 2, none⟩ = some (.string v.s))
      (first | exact KK.out _ (by assumption) | exact KK.out _ (Sep.drew (by assumption)) | exact KK2.out _ _ (by assumption) | exact KK.out _ (Sep.tail (Sep.alloc (by assumption) _)) | exact KK3.out _ _ (by assumption) | exact KK4.out _ (by (iterate 3 refine Sep.poke (q := b + 1) ?_ 0 rfl _ _); exact (HEND.out _ _ (by assumption)).2))
      (first
        | (go_at_call 24; refine (KN.out _ [] (by first | assumption | exact Sep.drew (by assumption))).mono ?_; rintro e w6 ⟨rfl, T1⟩)
        | (go_at_call 24; refine (KN.out _ [_] (Sep.alloc (by assumption) _)).mono ?_; rintro e w6 ⟨rfl, T1⟩)
        | (go_at_call 46; refine (KR.out _ [] (by first | assumption | exact Sep.drew (by assumption))).mono ?_; rintro e w6 ⟨rfl, T1⟩)
        | (go_at_call 19; refine (KM.out _ _ (by first | assumption | exact Sep.alloc (by assumption) _)).mono ?_; rintro e w6 ⟨rfl, T1⟩; have hz := (HEND.out _ _ T1).1; have z0 := cellAt hz 0 (v := .int .i64 0) rfl; have z1 := cellAt hz 1 (v := .int .i64 0) rfl; have z2 := cellAt hz 2 (v := .string ⟨#[]⟩) rfl; have z3 := frozenAt hz 0; have z4 := frozenAt hz 1; have z5 := frozenAt hz 2; clear hz))
    all_goals (go_wp2_with fail; go_meet; refine ⟨rfl, by simp [go_sem, *], by simp [go_sem, *], by simp [go_sem, *], ?_⟩; (iterate 3 refine Sep.poke (q := b + 1) ?_ 0 rfl _ _); exact (HEND.out _ _ (by assumption)).2)
  case rest =>
    obtain ⟨rfl, z0, z1, z2, S9⟩ := hcut
    have S10 := Lib.hid S9.tail.tail
    clear S9
    go_wp2
    exact bodyPost_ret (v := .tuple #[.agg #[.int .i64 4, .int .i64 (H.last + 1), .string ⟨#[]⟩], .bool true]) (by simp [results, Try.results18, go_sem, z0, z1, z2]) rfl ⟨rfl, S10.out⟩
end
end Go.Proofs.Ytkocenlglodklaa
/- Objects: bound. -/
namespace Go.Proofs.Ytkocenlglodklaa
set_option linter.unusedSimpArgs false
open Go.RowKit
set_option linter.unusedVariables false
section
variable {w W : World} {Rs : List Res} {h : Nat} {H : HeapM}
set_option maxRecDepth 100000 in
set_option maxHeartbeats 1600000 in
theorem bound_ok (S : Sep w Rs W) (i : Nat) (hi : Rs[i]? = some (heapR h H)) {N : Nat} (F : H.Fit N) (hN : N + 1 ≤ 4000000) (v x : V) (hs : (H.name x).size ≤ maxLen) (hk : H.kind x = 4) :
    Calls Try.prog 53 #[.pointer (some ⟨h, 0, none⟩), v.val, x.val] W fun e W' => e = .returned (.agg #[.int .i64 4, .int .i64 (H.last + 1), .string ⟨#[]⟩]) ∧ Sep w (Rs.set i (heapR h (H.add (boundO (H.name x) hs v x)))) W' := by
  obtain ⟨b, hb⟩ : ∃ gx_, (W.heap.size) = gx_ := ⟨_, rfl⟩
  have S1 := ((S.alloc (.cells #[.int .i64 v.kind, .int .i64 v.n, .string v.s] 33)).alloc (.cells #[.int .i64 x.kind, .int .i64 x.n, .string x.s] 33)).alloc (.cells #[.int .i64 0, .int .i64 0, .string ⟨#[]⟩] 33)
  simp only [World.size_alloc, hb] at S1
  have C1 := S1.kind (i + 3) (by simpa using hi) x
  rw [hk] at C1
  have d0 := cellAt (S1.box (b := b + 1) 1 rfl) 0 (v := .int .i64 x.kind) rfl
  have d1 := cellAt (S1.box (b := b + 1) 1 rfl) 1 (v := .int .i64 x.n) rfl
  have d2 := cellAt (S1.box (b := b + 1) 1 rfl) 2 (v := .string x.s) rfl
  obtain ⟨base, hbase⟩ : ∃ base, base = zeroB (b + 1 + 1) :: valB (b + 1) x :: valB b v :: Rs := ⟨_, rfl⟩
  have KN : Hid (∀ W (Q : List Res), Sep w (Q ++ base) W → Calls Try.prog 24 #[.pointer (some ⟨h, 0, none⟩), .agg #[.int .i64 x.kind, .int .i64 x.n, .string x.s]] W fun e W' => e = .returned (.string (H.name x)) ∧ Sep w (Q ++ base) W') := Lib.hid fun W Q T => by
    have h1 : (Q ++ base)[Q.length + (i + 3)]? = some (heapR h H) := by
      rw [List.getElem?_append_right (by omega), Nat.add_sub_cancel_left, hbase]; simpa using hi
    exact (T.name _ h1 x).mono fun e W' ⟨e1, e2, _⟩ => ⟨e1, e2⟩
  have KR : Hid (∀ (y : V) W (Q : List Res), Sep w (Q ++ base) W → Calls Try.prog 46 #[.agg #[.int .i64 y.kind, .int .i64 y.n, .string y.s]] W fun e W' => e = .returned (.agg #[.int .i64 4, .int .i64 y.n, .string ⟨#[]⟩]) ∧ Sep w (Q ++ base) W') := Lib.hid fun y W Q T => (oref_ok W y).mono fun e W' ⟨e1, e2⟩ => ⟨e1, T.later e2⟩
  obtain ⟨RS, hRS⟩ : ∃ RS, RS = Rs.set i (heapR h (H.add (boundO (H.name x) hs v x))) := ⟨_, rfl⟩
  have KM : Hid (∀ W q, Sep w (boxR q (.cells #[.int .i64 4, .int .i64 v.n, .string ⟨#[]⟩, .int .i64 4, .int .i64 x.n, .string ⟨#[]⟩] 33) :: base) W → Calls Try.prog 19 #[.pointer (some ⟨h, 0, none⟩), .int .i64 7, .string (H.name x), .int .i64 0, .slice (some ⟨q, 0, none⟩) 2 2] W fun e W' => e = .returned (.agg #[.int .i64 4, .int .i64 (H.last + 1), .string ⟨#[]⟩]) ∧ Sep w (boxR q (.cells #[.int .i64 4, .int .i64 v.n, .string ⟨#[]⟩, .int .i64 4, .int .i64 x.n, .string ⟨#[]⟩] 33) :: zeroB (b + 1 + 1) :: valB (b + 1) x :: valB b v :: RS) W') := Lib.hid fun W q T => by
    rw [hbase] at T
    have hq := T.box (b := q) 0 rfl
    have hsv : SeesV W (.slice (some ⟨q, 0, none⟩) 2 2) [v.asRef, x.asRef] := by
      refine ⟨_, _, rfl, by simp, by simp [maxLen], .inr ⟨q, 0, rfl, fun j y hj => ?_⟩⟩
      match j, hj with
      | 0, hj => simp at hj; subst hj; exact ⟨cellAt hq 0 rfl, cellAt hq 1 rfl, cellAt hq 2 rfl⟩
      | 1, hj => simp at hj; subst hj; exact ⟨cellAt hq 3 rfl, cellAt hq 4 rfl, cellAt hq 5 rfl⟩
    have := T.make (i + 4) (by simpa using hi) F.G hN (boundO (H.name x) hs v x) _ hsv (by simp [boundO]) rfl (by show (1 : Int) ≤ 7; decide) (by show (7 : Int) ≤ 12; decide)
    simp only [List.set_cons_succ] at this
    rw [hRS]
    exact this
  have HBASE := Lib.hid hbase
  rw [← hRS]
  simp only [V.val] at C1
  simp only [V.val]
  replace C1 := Lib.hid C1
  clear S S1 hbase hRS
  go_enter Try.func53, Try.ntmps53
  go_wp2_with fail
  try rw [hb]
  refine C1.out.mono ?_
  rintro e w1 ⟨rfl, S3, -⟩
  clear C1 d0 d1 d2 hb
  have S4 : Sep w ([] ++ base) w1 := by rw [HBASE.out]; exact S3
  have d0 := cellAt (S3.box (b := b) 2 rfl) 0 (v := .int .i64 v.kind) rfl
  have d1 := cellAt (S3.box (b := b) 2 rfl) 1 (v := .int .i64 v.n) rfl
  have d2 := cellAt (S3.box (b := b) 2 rfl) 2 (v := .string v.s) rfl
  have c0 := cellAt (S3.box (b := b + 1) 1 rfl) 0 (v := .int .i64 x.kind) rfl
  have c1 := cellAt (S3.box (b := b + 1) 1 rfl) 1 (v := .int .i64 x.n) rfl
  have c2 := cellAt (S3.box (b := b + 1) 1 rfl) 2 (v := .string x.s) rfl
  have ALL : Hid (∀ W (X Y : List Res), Sep w (X ++ valB (b + 1) x :: valB b v :: Y) W → (W.cell? ⟨b, 0, none⟩ = some (.int .i64 v.kind) ∧ W.cell? ⟨b, 1, none⟩ = some (.int .i64 v.n) ∧ W.cell? ⟨b, 2, none⟩ = some (.string v.s)) ∧ W.cell? ⟨b + 1, 0, none⟩ = some (.int .i64 x.kind) ∧ W.cell? ⟨b + 1, 1, none⟩ = some (.int .i64 x.n) ∧ W.cell? ⟨b + 1, 2, none⟩ = some (.string x.s)) := Lib.hid fun W X Y T => by
    have g1 := T.box (b := b + 1) (o := .cells #[.int .i64 x.kind, .int .i64 x.n, .string x.s] 33) X.length (by simp)
    have g2 := T.box (b := b) (o := .cells #[.int .i64 v.kind, .int .i64 v.n, .string v.s] 33) (X.length + 1) (by simp)
    exact ⟨⟨cellAt g2 0 rfl, cellAt g2 1 rfl, cellAt g2 2 rfl⟩, cellAt g1 0 rfl, cellAt g1 1 rfl, cellAt g1 2 rfl⟩
  have HEND : Hid (∀ W R, Sep w (R :: zeroB (b + 1 + 1) :: valB (b + 1) x :: valB b v :: RS) W → W.heap[b + 1 + 1]? = some (.cells #[.int .i64 0, .int .i64 0, .string ⟨#[]⟩] 33) ∧ Sep w (anyR (b + 1 + 1) :: valB (b + 1) x :: valB b v :: RS) W) := Lib.hid fun W q T => ⟨T.box 1 rfl, T.tail.toAny 0 rfl⟩
  have KK : Hid (∀ W, Sep w ([] ++ base) W → _) := Lib.hid fun W T => ALL.out W [zeroB (b + 1 + 1)] Rs (by rw [HBASE.out] at T; exact T)
  have KK2 : Hid (∀ W R, Sep w ([R] ++ base) W → _) := Lib.hid fun W R T => KK.out _ T.tail
  have KK3 : Hid (∀ W R, Sep w (R :: zeroB (b + 1 + 1) :: valB (b + 1) x :: valB b v :: RS) W → _) := Lib.hid fun W R T => ALL.out W [R, zeroB (b + 1 + 1)] RS T
  have KK4 : Hid (∀ W, Sep w (anyR (b + 1 + 1) :: valB (b + 1) x :: valB b v :: RS) W → _) := Lib.hid fun W T => ALL.out W [anyR (b + 1 + 1)] RS T
  clear ALL
  replace S4 := Lib.hid S4
  clear S3
  go_upto_region 3 with fail
  go_cut [] (fun wx => wx.cell? ⟨b + 1 + 1, 0, none⟩ = some (.int .i64 4) ∧ wx.cell? ⟨b + 1 + 1, 1, none⟩ = some (.int .i64 (H.last + 1)) ∧ wx.cell? ⟨b + 1 + 1, 2, none⟩ = some (.string ⟨#[]⟩) ∧ Sep w (anyR (b + 1 + 1) :: valB (b + 1) x :: valB b v :: RS) wx)
  case first =>
    have T0 := S4.out
    clear S4
    go_region_held3 (fun W => (W.cell? ⟨b, 0, none⟩ = some (.int .i64 v.kind) ∧ W.cell? ⟨b, 1, none⟩ = some (.int .i64 v.n) ∧ W.cell? ⟨b, 2, none⟩ = some (.string v.s)) ∧ W.cell? ⟨b + 1, 0, none⟩ = some (.int .i64 x.kind) ∧ W.cell? ⟨b + 1, 1, none⟩ = some (.int .i64 x.n) ∧ W.cell? ⟨b + 1, 2, none⟩ = some (.string x.s))
      (first | exact KK.out _ (by assumption) | exact KK.out _ (Sep.drew (by assumption)) | exact KK2.out _ _ (by assumption) | exact KK.out _ (Sep.tail (Sep.alloc (by assumption) _)) | exact KK3.out _ _ (by assumption) | exact KK4.out _ (by (iterate 3 refine Sep.poke (q := b + 1 + 1) ?_ 0 rfl _ _); exact (HEND.out _ _ (by assumption)).2))
      (first
        | (go_at_call 24; refine (KN.out _ [] (by first | assumption | exact Sep.drew (by assumption))).mono ?_; rintro e w6 ⟨rfl, T1⟩)
        | (go_at_call 24; refine (KN.out _ [_] (Sep.alloc (by assumption) _)).mono ?_; rintro e w6 ⟨rfl, T1⟩)
        | (go_at_call 46; refine (KR.out _ _ [] (by first | assumption | exact Sep.drew (by assumption))).mono ?_; rintro e w6 ⟨rfl, T1⟩)
        | (go_at_call 19; refine (KM.out _ _ (by first | assumption | exact Sep.alloc (by assumption) _)).mono ?_; rintro e w6 ⟨rfl, T1⟩; have hz := (HEND.out _ _ T1).1; have z0 := cellAt hz 0 (v := .int .i64 0) rfl; have z1 := cellAt hz 1 (v := .int .i64 0) rfl; have z2 := cellAt hz 2 (v := .string ⟨#[]⟩) rfl; have z3 := frozenAt hz 0; have z4 := frozenAt hz 1; have z5 := frozenAt hz 2; clear hz))
    all_goals (go_wp2_with fail; go_meet; refine ⟨by simp [go_sem, *], by simp [go_sem, *], by simp [go_sem, *], ?_⟩; (iterate 3 refine Sep.poke (q := b + 1 + 1) ?_ 0 rfl _ _); exact (HEND.out _ _ (by assumption)).2)
  case rest =>
    obtain ⟨z0, z1, z2, S9⟩ := hcut
    have S10 := Lib.hid S9.tail.tail.tail
    clear S9
    go_wp2
    exact bodyPost_ret (v := .agg #[.int .i64 4, .int .i64 (H.last + 1), .string ⟨#[]⟩]) (by simp [results, Try.results53, go_sem, z0, z1, z2]) rfl ⟨rfl, S10.out⟩
end
end Go.Proofs.Ytkocenlglodklaa
/- Objects: Instance and bound, where nothing is made. -/
namespace Go.Proofs.Ytkocenlglodklaa
set_option linter.unusedSimpArgs false
open Go.RowKit
set_option linter.unusedVariables false
section
variable {w W : World} {Rs : List Res} {h : Nat} {H : HeapM}
set_option maxRecDepth 100000 in
set_option maxHeartbeats 1600000 in
theorem instance_no (S : Sep w Rs W) (i : Nat) (hi : Rs[i]? = some (heapR h H)) (v : V) (hc : H.isClass v = false) :
    Calls Try.prog 18 #[.pointer (some ⟨h, 0, none⟩), v.val] W fun e W' => e = .returned (.tuple #[zeroV, .bool false]) ∧ Sep w Rs W' := by
  obtain ⟨b, hb⟩ : ∃ gx_, (W.heap.size) = gx_ := ⟨_, rfl⟩
  have S1 := (S.alloc (.cells #[.int .i64 v.kind, .int .i64 v.n, .string v.s] 33)).alloc (.cells #[.int .i64 0, .int .i64 0, .string ⟨#[]⟩] 33)
  simp only [World.size_alloc, hb] at S1
  have C1 := isClass_ok S1 (i + 2) (by simpa using hi) v
  rw [hc] at C1
  have d0 := cellAt (S1.box (b := b) 1 rfl) 0 (v := .int .i64 v.kind) rfl
  have d1 := cellAt (S1.box (b := b) 1 rfl) 1 (v := .int .i64 v.n) rfl
  have d2 := cellAt (S1.box (b := b) 1 rfl) 2 (v := .string v.s) rfl
  have FR : Hid (∀ W, Sep w (anyR (b + 1) :: valB b v :: Rs) W → Sep w Rs W) := Lib.hid fun W T => T.tail.tail
  simp only [V.val] at *
  replace C1 := Lib.hid C1
  clear S S1 hi hc
  go_enter Try.func18, Try.ntmps18
  go_wp2_with fail
  try rw [hb]
  refine C1.out.mono ?_
  rintro e w1 ⟨rfl, S3⟩
  clear C1 d0 d1 d2 hb
  have hz := S3.box (b := b + 1) 0 rfl
  have S9 : Hid (Sep w (anyR (b + 1) :: valB b v :: Rs) _) := Lib.hid (S3.toAny 0 rfl)
  have x0 := cellAt hz 0 (v := .int .i64 0) rfl
  have x1 := cellAt hz 1 (v := .int .i64 0) rfl
  have x2 := cellAt hz 2 (v := .string ⟨#[]⟩) rfl
  have x3 := frozenAt hz 0
  have x4 := frozenAt hz 1
  have x5 := frozenAt hz 2
  clear hz S3
  go_wp2
  refine bodyPost_ret (v := .tuple #[zeroV, .bool false]) (by simp [results, Try.results18, go_sem, x0, x1, x2]) rfl ⟨rfl, FR.out _ ?_⟩
  iterate 3 refine Sep.poke (q := b + 1) ?_ 0 rfl _ _
  exact S9.out
set_option maxRecDepth 100000 in
set_option maxHeartbeats 1600000 in
theorem bound_no (S : Sep w Rs W) (i : Nat) (hi : Rs[i]? = some (heapR h H)) (v x : V) (hk : H.kind x ≠ 4) :
    Calls Try.prog 53 #[.pointer (some ⟨h, 0, none⟩), v.val, x.val] W fun e W' => e = .returned x.val ∧ Sep w Rs W' := by
  obtain ⟨b, hb⟩ : ∃ gx_, (W.heap.size) = gx_ := ⟨_, rfl⟩
  have S1 := ((S.alloc (.cells #[.int .i64 v.kind, .int .i64 v.n, .string v.s] 33)).alloc (.cells #[.int .i64 x.kind, .int .i64 x.n, .string x.s] 33)).alloc (.cells #[.int .i64 0, .int .i64 0, .string ⟨#[]⟩] 33)
  simp only [World.size_alloc, hb] at S1
  have C1 := S1.kind (i + 3) (by simpa using hi) x
  have d0 := cellAt (S1.box (b := b + 1) 1 rfl) 0 (v := .int .i64 x.kind) rfl
  have d1 := cellAt (S1.box (b := b + 1) 1 rfl) 1 (v := .int .i64 x.n) rfl
  have d2 := cellAt (S1.box (b := b + 1) 1 rfl) 2 (v := .string x.s) rfl
  obtain ⟨kd, hkd⟩ : ∃ gx_, (H.kind x) = gx_ := ⟨_, rfl⟩
  rw [hkd] at C1 hk
  have FR : Hid (∀ W, Sep w (anyR (b + 1 + 1) :: valB (b + 1) x :: valB b v :: Rs) W → Sep w Rs W) := Lib.hid fun W T => T.tail.tail.tail
  simp only [V.val] at *
  replace C1 := Lib.hid C1
  clear S S1 hi hkd
  go_enter Try.func53, Try.ntmps53
  go_wp2_with fail
  try rw [hb]
  refine C1.out.mono ?_
  rintro e w1 ⟨rfl, S3, -⟩
  clear C1 d0 d1 d2 hb
  have hz := S3.box (b := b + 1 + 1) 0 rfl
  have d0 := cellAt (S3.box (b := b + 1) 1 rfl) 0 (v := .int .i64 x.kind) rfl
  have d1 := cellAt (S3.box (b := b + 1) 1 rfl) 1 (v := .int .i64 x.n) rfl
  have d2 := cellAt (S3.box (b := b + 1) 1 rfl) 2 (v := .string x.s) rfl
  have S9 : Hid (Sep w (anyR (b + 1 + 1) :: valB (b + 1) x :: valB b v :: Rs) _) := Lib.hid (S3.toAny 0 rfl)
  have x0 := cellAt hz 0 (v := .int .i64 0) rfl
  have x1 := cellAt hz 1 (v := .int .i64 0) rfl
  have x2 := cellAt hz 2 (v := .string ⟨#[]⟩) rfl
  have x3 := frozenAt hz 0
  have x4 := frozenAt hz 1
  have x5 := frozenAt hz 2
  clear hz S3
  go_wp2
  refine bodyPost_ret (v := .agg #[.int .i64 x.kind, .int .i64 x.n, .string x.s]) (by simp [results, Try.results53, go_sem, x0, x1, x2]) rfl ⟨rfl, FR.out _ ?_⟩
  iterate 3 refine Sep.poke (q := b + 1 + 1) ?_ 0 rfl _ _
  exact S9.out
end
end Go.Proofs.Ytkocenlglodklaa
/- Objects: bound in one, Special. -/
namespace Go.Proofs.Ytkocenlglodklaa
set_option linter.unusedSimpArgs false
open Go.RowKit
set_option linter.unusedVariables false
theorem HeapM.name_le (H : HeapM) (v : V) : (H.name v).size ≤ maxLen := by
  unfold HeapM.name
  cases H.of v with
  | none => exact Nat.zero_le _
  | some o => exact o.hs
/-- What bound answers, and the heap behind it. -/
def HeapM.boundM (H : HeapM) (v x : V) : Value × HeapM := if H.kind x = 4 then (.agg #[.int .i64 4, .int .i64 (H.last + 1), .string ⟨#[]⟩], H.add (boundO (H.name x) (H.name_le x) v x)) else (.agg #[.int .i64 x.kind, .int .i64 x.n, .string x.s], H)
def HeapM.specM (H : HeapM) (v key : V) : Value × Bool × HeapM := match (H.ofM v).bind (fun c => H.find c key) with | none => (zeroV, false, H) | some x => ((H.boundM v x).1, true, (H.boundM v x).2)
section
variable {w W : World} {Rs : List Res} {h : Nat} {H : HeapM}
theorem bound_all (S : Sep w Rs W) (i : Nat) (hi : Rs[i]? = some (heapR h H)) {N : Nat} (F : H.Fit N) (hN : N + 1 ≤ 4000000) (v x : V) :
    Calls Try.prog 53 #[.pointer (some ⟨h, 0, none⟩), v.val, x.val] W fun e W' => e = .returned (H.boundM v x).1 ∧ Sep w (Rs.set i (heapR h (H.boundM v x).2)) W' := by
  unfold HeapM.boundM
  by_cases hk : H.kind x = 4
  · rw [if_pos hk]; exact bound_ok S i hi F hN v x (H.name_le x) hk
  · rw [if_neg hk, Sep.setSame hi]; exact bound_no S i hi v x hk
theorem boundM_agg (H : HeapM) (v x : V) : ∃ (p q : Int) (s : ByteArray), (H.boundM v x).1 = .agg #[.int .i64 p, .int .i64 q, .string s] := by
  unfold HeapM.boundM
  split <;> exact ⟨_, _, _, rfl⟩
set_option maxRecDepth 100000 in
set_option maxHeartbeats 1600000 in
theorem special_ok (S : Sep w Rs W) (i : Nat) (hi : Rs[i]? = some (heapR h H)) {N : Nat} (F : H.Fit N) (hN : N + 1 ≤ 4000000) (v : V) (s : ByteArray) (hs : s.size ≤ maxLen) :
    Calls Try.prog 22 #[.pointer (some ⟨h, 0, none⟩), v.val, .string s] W fun e W' => e = .returned (.tuple #[(H.specM v (keyS s hs)).1, .bool (H.specM v (keyS s hs)).2.1]) ∧ Sep w (Rs.set i (heapR h (H.specM v (keyS s hs)).2.2)) W' := by
  obtain ⟨b, hb⟩ : ∃ gx_, (W.heap.size) = gx_ := ⟨_, rfl⟩
  have S1 := (S.alloc (.cells #[.int .i64 v.kind, .int .i64 v.n, .string v.s] 33)).alloc (.cells #[.int .i64 0, .int .i64 0, .string ⟨#[]⟩] 33)
  simp only [World.size_alloc, hb] at S1
  have C1 := of_ok S1 (i + 2) (by simpa using hi) v
  have d0 := cellAt (S1.box (b := b) 1 rfl) 0 (v := .int .i64 v.kind) rfl
  have d1 := cellAt (S1.box (b := b) 1 rfl) 1 (v := .int .i64 v.n) rfl
  have d2 := cellAt (S1.box (b := b) 1 rfl) 2 (v := .string v.s) rfl
  have SP : Hid (H.specM v (keyS s hs) = match (H.ofM v).bind (fun c => H.find c (keyS s hs)) with | none => (zeroV, false, H) | some x => ((H.boundM v x).1, true, (H.boundM v x).2)) := Lib.hid rfl
  have HI := Lib.hid hi
  have HS := Lib.hid (Sep.setSame hi)
  have HF := Lib.hid (And.intro F hN)
  obtain ⟨SM, hSM⟩ : ∃ gx_, (H.specM v (keyS s hs)) = gx_ := ⟨_, rfl⟩
  rw [hSM] at SP ⊢
  obtain ⟨R, hR⟩ : ∃ gx_, (H.ofM v) = gx_ := ⟨_, rfl⟩
  rw [hR] at C1 SP
  clear S S1 hi F hN hR hSM
  have FR : Hid (∀ W, Sep w (anyR (b + 1) :: valB b v :: Rs) W → Sep w Rs W) := Lib.hid fun W T => T.tail.tail
  cases R with
  | none =>
    simp only [V.val, Option.getD_none, Option.isSome_none, V.zero] at *
    replace C1 := Lib.hid C1
    have E : Hid (SM = (zeroV, false, H)) := Lib.hid SP.out
    go_enter Try.func22, Try.ntmps22
    go_wp2_with fail
    try rw [hb]
    refine C1.out.mono ?_
    rintro e w1 ⟨rfl, S2⟩
    clear C1 d0 d1 d2 hb
    have S3 := (S2.alloc (.cells #[.int .i64 0, .int .i64 0, .string ⟨#[]⟩] 33)).tail
    have hz := S3.box (b := b + 1) 0 rfl
    have S9 : Hid (Sep w (anyR (b + 1) :: valB b v :: Rs) _) := Lib.hid (S3.toAny 0 rfl)
    have x0 := cellAt hz 0 (v := .int .i64 0) rfl
    have x1 := cellAt hz 1 (v := .int .i64 0) rfl
    have x2 := cellAt hz 2 (v := .string ⟨#[]⟩) rfl
    have x3 := frozenAt hz 0
    have x4 := frozenAt hz 1
    have x5 := frozenAt hz 2
    clear hz S2 S3
    go_wp2
    refine bodyPost_ret (v := .tuple #[zeroV, .bool false]) (by simp [results, Try.results22, go_sem, x0, x1, x2]) rfl ⟨by rw [E.out], ?_⟩
    rw [E.out]
    show Sep w (Rs.set i (heapR h H)) _
    rw [HS.out]
    refine FR.out _ ?_
    iterate 3 refine Sep.poke (q := b + 1) ?_ 0 rfl _ _
    exact S9.out
  | some c =>
    simp only [V.val, Option.getD_some, Option.isSome_some, Option.bind_some] at *
    replace C1 := Lib.hid C1
    obtain ⟨R2, hR2⟩ : ∃ gx_, (H.find c (keyS s hs)) = gx_ := ⟨_, rfl⟩
    rw [hR2] at SP
    have HR2 := Lib.hid hR2
    clear hR2
    go_enter Try.func22, Try.ntmps22
    go_wp2_with fail
    try rw [hb]
    refine C1.out.mono ?_
    rintro e w1 ⟨rfl, S2⟩
    clear C1 d0 d1 d2 hb
    obtain ⟨q, hq⟩ : ∃ gx_, (w1.heap.size) = gx_ := ⟨_, rfl⟩
    have S3 := S2.alloc (.cells #[.int .i64 c.kind, .int .i64 c.n, .string c.s] 33)
    rw [hq] at S3
    have C2 := find_ok S3 (i + 3) (by simpa using HI.out) HF.out.1.G (by have := HF.out.2; omega) c s hs
    rw [HR2.out] at C2
    have d0 := cellAt (S3.box (b := q) 0 rfl) 0 (v := .int .i64 c.kind) rfl
    have d1 := cellAt (S3.box (b := q) 0 rfl) 1 (v := .int .i64 c.n) rfl
    have d2 := cellAt (S3.box (b := q) 0 rfl) 2 (v := .string c.s) rfl
    clear S2 S3
    cases R2 with
    | none =>
      simp only [V.val, Option.getD_none, Option.isSome_none, V.zero] at *
      replace C2 := Lib.hid C2
      have E : Hid (SM = (zeroV, false, H)) := Lib.hid SP.out
      go_wp2_with fail
      refine C2.out.mono ?_
      rintro e w2 ⟨rfl, S4⟩
      clear C2 d0 d1 d2 hq
      have S3 := (S4.tail.alloc (.cells #[.int .i64 0, .int .i64 0, .string ⟨#[]⟩] 33)).tail
      have hz := S3.box (b := b + 1) 0 rfl
      have S9 : Hid (Sep w (anyR (b + 1) :: valB b v :: Rs) _) := Lib.hid (S3.toAny 0 rfl)
      have x0 := cellAt hz 0 (v := .int .i64 0) rfl
      have x1 := cellAt hz 1 (v := .int .i64 0) rfl
      have x2 := cellAt hz 2 (v := .string ⟨#[]⟩) rfl
      have x3 := frozenAt hz 0
      have x4 := frozenAt hz 1
      have x5 := frozenAt hz 2
      clear hz S4 S3
      go_wp2
      refine bodyPost_ret (v := .tuple #[zeroV, .bool false]) (by simp [results, Try.results22, go_sem, x0, x1, x2]) rfl ⟨by rw [E.out], ?_⟩
      rw [E.out]
      show Sep w (Rs.set i (heapR h H)) _
      rw [HS.out]
      refine FR.out _ ?_
      iterate 3 refine Sep.poke (q := b + 1) ?_ 0 rfl _ _
      exact S9.out
    | some x =>
      simp only [V.val, Option.getD_some, Option.isSome_some] at *
      replace C2 := Lib.hid C2
      have E : Hid (SM = ((H.boundM v x).1, true, (H.boundM v x).2)) := Lib.hid SP.out
      go_wp2_with fail
      refine C2.out.mono ?_
      rintro e w2 ⟨rfl, S4⟩
      clear C2 d0 d1 d2 hq
      obtain ⟨q2, hq2⟩ : ∃ gx_, (w2.heap.size) = gx_ := ⟨_, rfl⟩
      have S5 := S4.tail.alloc (.cells #[.int .i64 x.kind, .int .i64 x.n, .string x.s] 33)
      rw [hq2] at S5
      have C3 := bound_all S5 (i + 3) (by simpa using HI.out) HF.out.1 HF.out.2 v x
      have d0 := cellAt (S5.box (b := q2) 0 rfl) 0 (v := .int .i64 x.kind) rfl
      have d1 := cellAt (S5.box (b := q2) 0 rfl) 1 (v := .int .i64 x.n) rfl
      have d2 := cellAt (S5.box (b := q2) 0 rfl) 2 (v := .string x.s) rfl
      have d3 := cellAt (S5.box (b := b) 2 rfl) 0 (v := .int .i64 v.kind) rfl
      have d4 := cellAt (S5.box (b := b) 2 rfl) 1 (v := .int .i64 v.n) rfl
      have d5 := cellAt (S5.box (b := b) 2 rfl) 2 (v := .string v.s) rfl
      obtain ⟨p1, p2, p3, hp⟩ := boundM_agg H v x
      rw [hp] at C3 E
      simp only [List.set_cons_succ, V.val] at C3
      obtain ⟨H2, hH2⟩ : ∃ gx_, ((H.boundM v x).2) = gx_ := ⟨_, rfl⟩
      rw [hH2] at C3 E
      replace C3 := Lib.hid C3
      have FR2 : Hid (∀ W, Sep w (anyR (b + 1) :: valB b v :: Rs.set i (heapR h H2)) W → Sep w (Rs.set i (heapR h H2)) W) := Lib.hid fun W T => T.tail.tail
      clear S4 S5 hp hH2 FR
      go_wp2_with fail
      refine C3.out.mono ?_
      rintro e w3 ⟨rfl, S6⟩
      clear C3 d0 d1 d2 d3 d4 d5 hq2
      have S3 := S6.tail
      have hz := S3.box (b := b + 1) 0 rfl
      have S9 : Hid (Sep w (anyR (b + 1) :: valB b v :: Rs.set i (heapR h H2)) _) := Lib.hid (S3.toAny 0 rfl)
      have x0 := cellAt hz 0 (v := .int .i64 0) rfl
      have x1 := cellAt hz 1 (v := .int .i64 0) rfl
      have x2 := cellAt hz 2 (v := .string ⟨#[]⟩) rfl
      have x3 := frozenAt hz 0
      have x4 := frozenAt hz 1
      have x5 := frozenAt hz 2
      clear hz S6 S3
      go_wp2
      refine bodyPost_ret (v := .tuple #[.agg #[.int .i64 p1, .int .i64 p2, .string p3], .bool true]) (by simp [results, Try.results22, go_sem, x0, x1, x2]) rfl ⟨by rw [E.out], ?_⟩
      rw [E.out]
      refine FR2.out _ ?_
      iterate 3 refine Sep.poke (q := b + 1) ?_ 0 rfl _ _
      exact S9.out
end
end Go.Proofs.Ytkocenlglodklaa
