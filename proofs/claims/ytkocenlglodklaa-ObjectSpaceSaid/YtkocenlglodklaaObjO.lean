import Derived.Test.YtkocenlglodklaaClsM
/- Objects: Get. -/
namespace Go.Proofs.Ytkocenlglodklaa
set_option linter.unusedSimpArgs false
open Go.RowKit
set_option linter.unusedVariables false
/-- Get is done. -/
def GetDone (w : World) (Rs : List Res) (i h : Nat) (s : ByteArray) (r : Option (Value × HeapM)) (H : HeapM) (e : Ending) (W : World) : Prop :=
  match r with
  | some (a, H') => e = .returned (.tuple #[a, excZ]) ∧ Sep w (Rs.set i (heapR h H')) W
  | none => e = .returned (.tuple #[zeroV, excA s]) ∧ Sep w Rs W
section
variable {w W : World} {Rs : List Res} {h : Nat} {H : HeapM}
set_option maxRecDepth 100000 in
set_option maxHeartbeats 3200000 in
theorem get_class (S : Sep w Rs W) (i : Nat) (hi : Rs[i]? = some (heapR h H)) {N : Nat} (F : H.Fit N) (hN : N + 1 ≤ 4000000) (v : V) (s : ByteArray) (hs : s.size ≤ maxLen) (hc : H.isClass v = true) :
    Calls Try.prog 21 #[.pointer (some ⟨h, 0, none⟩), v.val, .string s] W (GetDone w Rs i h s (H.getA v (keyS s hs)) H) := by
  obtain ⟨b, hb⟩ : ∃ gx_, (W.heap.size) = gx_ := ⟨_, rfl⟩
  have S1 := ((S.alloc (.cells #[.int .i64 v.kind, .int .i64 v.n, .string v.s] 33)).alloc (.cells #[.int .i64 0, .int .i64 0, .string ⟨#[]⟩] 33)).alloc (.cells #[.string ⟨#[]⟩, .int .i64 0, .int .i64 0, .string ⟨#[]⟩, .bool false] 45)
  simp only [World.size_alloc, hb] at S1
  have C1 := isClass_ok S1 (i + 3) (by simpa using hi) v
  rw [hc] at C1
  have d0 := cellAt (S1.box (b := b) 2 rfl) 0 (v := .int .i64 v.kind) rfl
  have d1 := cellAt (S1.box (b := b) 2 rfl) 1 (v := .int .i64 v.n) rfl
  have d2 := cellAt (S1.box (b := b) 2 rfl) 2 (v := .string v.s) rfl
  have FR : Hid (∀ W, Sep w (anyR (b + 1 + 1) :: anyR (b + 1) :: valB b v :: Rs) W → Sep w Rs W) := Lib.hid fun W T => T.tail.tail.tail
  have HI := Lib.hid hi
  have HF := Lib.hid (And.intro F hN)
  obtain ⟨DD, hDD⟩ : ∃ DD : Ending → World → Prop, DD = GetDone w Rs i h s (H.getA v (keyS s hs)) H := ⟨_, rfl⟩
  rw [← hDD]
  have DA : Hid (∀ e W', DD e W' = match H.find v (keyS s hs) with | some x => e = .returned (.tuple #[x.val, excZ]) ∧ Sep w Rs W' | none => e = .returned (.tuple #[zeroV, excA s]) ∧ Sep w Rs W') := Lib.hid fun e W' => by
    rw [hDD]
    unfold GetDone HeapM.getA
    rw [if_pos hc]
    cases H.find v (keyS s hs) with
    | none => rfl
    | some x => simp only [Option.map_some]; rw [Sep.setSame hi]
  obtain ⟨R2, hR2⟩ : ∃ gx_, (H.find v (keyS s hs)) = gx_ := ⟨_, rfl⟩
  rw [hR2] at DA
  have HR2 := Lib.hid hR2
  clear hR2
  simp only [V.val] at C1 ⊢
  replace C1 := Lib.hid C1
  clear S S1 hi F hN hc hDD
  go_enter Try.func21, Try.ntmps21
  go_wp2_with fail
  try rw [hb]
  refine C1.out.mono ?_
  rintro e w1 ⟨rfl, S2⟩
  clear C1 d0 d1 d2 hb
  have C2 := find_ok S2 (i + 3) (by simpa using HI.out) HF.out.1.G (by have := HF.out.2; omega) v s hs
  rw [HR2.out] at C2
  have d0 := cellAt (S2.box (b := b) 2 rfl) 0 (v := .int .i64 v.kind) rfl
  have d1 := cellAt (S2.box (b := b) 2 rfl) 1 (v := .int .i64 v.n) rfl
  have d2 := cellAt (S2.box (b := b) 2 rfl) 2 (v := .string v.s) rfl
  cases R2 with
  | none =>
    have DN : Hid (∀ e W', DD e W' = (e = .returned (.tuple #[zeroV, excA s]) ∧ Sep w Rs W')) := Lib.hid DA.out
    simp only [V.val, Option.getD_none, Option.isSome_none, V.zero] at C2
    replace C2 := Lib.hid C2
    clear S2 DA
    go_wp2_with fail
    refine C2.out.mono ?_
    rintro e w2 ⟨rfl, S3⟩
    clear C2 d0 d1 d2
    have S4 := S3.alloc (.cells #[.int .i64 0, .int .i64 0, .string ⟨#[]⟩] 33)
    have C3 := Lib.hid (missing_ok S4 s)
    clear S3 S4
    go_wp2_with fail
    refine C3.out.mono ?_
    rintro e w3 ⟨rfl, S5⟩
    have ex := (S5.tail).box (b := b + 1 + 1) 0 rfl
    have zx := (S5.tail).box (b := b + 1) 1 rfl
    have S90 : Hid (Sep w (anyR (b + 1 + 1) :: anyR (b + 1) :: valB b v :: Rs) _) := Lib.hid (((S5.tail).toAny 0 rfl).toAny 1 rfl)
    have x0 := cellAt zx 0 (v := .int .i64 0) rfl
    have x1 := cellAt zx 1 (v := .int .i64 0) rfl
    have x2 := cellAt zx 2 (v := .string ⟨#[]⟩) rfl
    have x3 := frozenAt zx 0
    have x4 := frozenAt zx 1
    have x5 := frozenAt zx 2
    have y0 := cellAt ex 0 (v := .string ⟨#[]⟩) rfl
    have y1 := cellAt ex 1 (v := .int .i64 0) rfl
    have y2 := cellAt ex 2 (v := .int .i64 0) rfl
    have y3 := cellAt ex 3 (v := .string ⟨#[]⟩) rfl
    have y4 := cellAt ex 4 (v := .bool false) rfl
    have y5 := frozenAt ex 0
    have y6 := frozenAt ex 1
    have y7 := frozenAt ex 2
    have y8 := frozenAt ex 3
    have y9 := frozenAt ex 4
    clear ex zx
    clear C3 S5
    go_wp2
    refine bodyPost_ret (v := .tuple #[zeroV, excA s]) (by simp [results, Try.results21, go_sem, x0, x1, x2, y0, y1, y2, y3, y4]) rfl ?_
    rw [DN.out]
    refine ⟨rfl, FR.out _ ?_⟩
    iterate 5 refine Sep.poke (q := b + 1 + 1) ?_ 0 rfl _ _
    iterate 3 refine Sep.poke (q := b + 1) ?_ 1 rfl _ _
    exact S90.out
  | some x =>
    have DN : Hid (∀ e W', DD e W' = (e = .returned (.tuple #[x.val, excZ]) ∧ Sep w Rs W')) := Lib.hid DA.out
    simp only [V.val, Option.getD_some, Option.isSome_some] at C2
    replace C2 := Lib.hid C2
    clear S2 DA
    go_wp2_with fail
    refine C2.out.mono ?_
    rintro e w2 ⟨rfl, S3⟩
    clear C2 d0 d1 d2
    obtain ⟨q, hq⟩ : ∃ gx_, (w2.heap.size) = gx_ := ⟨_, rfl⟩
    have S4 := S3.alloc (.cells #[.int .i64 x.kind, .int .i64 x.n, .string x.s] 33)
    rw [hq] at S4
    have d0 := cellAt (S4.box (b := q) 0 rfl) 0 (v := .int .i64 x.kind) rfl
    have d1 := cellAt (S4.box (b := q) 0 rfl) 1 (v := .int .i64 x.n) rfl
    have d2 := cellAt (S4.box (b := q) 0 rfl) 2 (v := .string x.s) rfl
    have ex := (S4.tail).box (b := b + 1 + 1) 0 rfl
    have zx := (S4.tail).box (b := b + 1) 1 rfl
    have S90 : Hid (Sep w (anyR (b + 1 + 1) :: anyR (b + 1) :: valB b v :: Rs) _) := Lib.hid (((S4.tail).toAny 0 rfl).toAny 1 rfl)
    have x0 := cellAt zx 0 (v := .int .i64 0) rfl
    have x1 := cellAt zx 1 (v := .int .i64 0) rfl
    have x2 := cellAt zx 2 (v := .string ⟨#[]⟩) rfl
    have x3 := frozenAt zx 0
    have x4 := frozenAt zx 1
    have x5 := frozenAt zx 2
    have y0 := cellAt ex 0 (v := .string ⟨#[]⟩) rfl
    have y1 := cellAt ex 1 (v := .int .i64 0) rfl
    have y2 := cellAt ex 2 (v := .int .i64 0) rfl
    have y3 := cellAt ex 3 (v := .string ⟨#[]⟩) rfl
    have y4 := cellAt ex 4 (v := .bool false) rfl
    have y5 := frozenAt ex 0
    have y6 := frozenAt ex 1
    have y7 := frozenAt ex 2
    have y8 := frozenAt ex 3
    have y9 := frozenAt ex 4
    clear ex zx
    clear S3 S4
    go_wp2
    refine bodyPost_ret (v := .tuple #[.agg #[.int .i64 x.kind, .int .i64 x.n, .string x.s], excZ]) (by simp [results, Try.results21, go_sem, x0, x1, x2, y0, y1, y2, y3, y4]) rfl ?_
    rw [DN.out]
    refine ⟨rfl, FR.out _ ?_⟩
    iterate 5 refine Sep.poke (q := b + 1 + 1) ?_ 0 rfl _ _
    iterate 3 refine Sep.poke (q := b + 1) ?_ 1 rfl _ _
    exact S90.out
end
end Go.Proofs.Ytkocenlglodklaa
/- Objects: Get, where it is asked of no class. -/
namespace Go.Proofs.Ytkocenlglodklaa
set_option linter.unusedSimpArgs false
open Go.RowKit
set_option linter.unusedVariables false
section
variable {w W : World} {Rs : List Res} {h : Nat} {H : HeapM}
set_option maxRecDepth 100000 in
set_option maxHeartbeats 3200000 in
theorem get_else (S : Sep w Rs W) (i : Nat) (hi : Rs[i]? = some (heapR h H)) {N : Nat} (F : H.Fit N) (hN : N + 1 ≤ 4000000) (v : V) (s : ByteArray) (hs : s.size ≤ maxLen) (hc : H.isClass v = false) :
    Calls Try.prog 21 #[.pointer (some ⟨h, 0, none⟩), v.val, .string s] W (GetDone w Rs i h s (H.getA v (keyS s hs)) H) := by
  obtain ⟨b, hb⟩ : ∃ gx_, (W.heap.size) = gx_ := ⟨_, rfl⟩
  have S1 := ((S.alloc (.cells #[.int .i64 v.kind, .int .i64 v.n, .string v.s] 33)).alloc (.cells #[.int .i64 0, .int .i64 0, .string ⟨#[]⟩] 33)).alloc (.cells #[.string ⟨#[]⟩, .int .i64 0, .int .i64 0, .string ⟨#[]⟩, .bool false] 45)
  simp only [World.size_alloc, hb] at S1
  have C1 := isClass_ok S1 (i + 3) (by simpa using hi) v
  rw [hc] at C1
  have d0 := cellAt (S1.box (b := b) 2 rfl) 0 (v := .int .i64 v.kind) rfl
  have d1 := cellAt (S1.box (b := b) 2 rfl) 1 (v := .int .i64 v.n) rfl
  have d2 := cellAt (S1.box (b := b) 2 rfl) 2 (v := .string v.s) rfl
  have FR : Hid (∀ W, Sep w (anyR (b + 1 + 1) :: anyR (b + 1) :: valB b v :: Rs) W → Sep w Rs W) := Lib.hid fun W T => T.tail.tail.tail
  have HI := Lib.hid hi
  have HF := Lib.hid (And.intro F hN)
  obtain ⟨DD, hDD⟩ : ∃ DD : Ending → World → Prop, DD = GetDone w Rs i h s (H.getA v (keyS s hs)) H := ⟨_, rfl⟩
  rw [← hDD]
  have DA : Hid (∀ e W', DD e W' = match H.ofM v with
      | none => e = .returned (.tuple #[zeroV, excA s]) ∧ Sep w Rs W'
      | some c => match H.get v (keyS s hs) with
        | some x => e = .returned (.tuple #[x.val, excZ]) ∧ Sep w Rs W'
        | none => match H.find c (keyS s hs) with
          | some x => e = .returned (.tuple #[(H.boundM v x).1, excZ]) ∧ Sep w (Rs.set i (heapR h (H.boundM v x).2)) W'
          | none => e = .returned (.tuple #[zeroV, excA s]) ∧ Sep w Rs W') := Lib.hid fun e W' => by
    rw [hDD]
    unfold GetDone HeapM.getA
    rw [if_neg (by rw [hc]; simp)]
    cases H.ofM v with
    | none => simp
    | some c =>
      simp only [Option.isSome_some, if_true]
      cases H.get v (keyS s hs) with
      | some x => simp only; rw [Sep.setSame hi]
      | none =>
        simp only [Option.bind_some]
        cases H.find c (keyS s hs) <;> rfl
  have SPN : Hid (H.specM v (keyS s hs) = match H.ofM v with
      | none => (zeroV, false, H)
      | some c => match H.find c (keyS s hs) with
        | some x => ((H.boundM v x).1, true, (H.boundM v x).2)
        | none => (zeroV, false, H)) := Lib.hid (by
    unfold HeapM.specM
    cases H.ofM v with
    | none => rfl
    | some c => simp only [Option.bind_some]; cases H.find c (keyS s hs) <;> rfl)
  obtain ⟨R2, hR2⟩ : ∃ gx_, (H.ofM v) = gx_ := ⟨_, rfl⟩
  rw [hR2] at DA SPN
  have HR2 := Lib.hid hR2
  have HSET := Lib.hid (Sep.setSame hi)
  clear hR2
  simp only [V.val] at C1 ⊢
  replace C1 := Lib.hid C1
  clear S S1 hi F hN hc hDD
  go_enter Try.func21, Try.ntmps21
  go_wp2_with fail
  try rw [hb]
  refine C1.out.mono ?_
  rintro e w1 ⟨rfl, S2⟩
  clear C1 d0 d1 d2 hb
  have C2 := of_ok S2 (i + 3) (by simpa using HI.out) v
  rw [HR2.out] at C2
  have d0 := cellAt (S2.box (b := b) 2 rfl) 0 (v := .int .i64 v.kind) rfl
  have d1 := cellAt (S2.box (b := b) 2 rfl) 1 (v := .int .i64 v.n) rfl
  have d2 := cellAt (S2.box (b := b) 2 rfl) 2 (v := .string v.s) rfl
  cases R2 with
  | none =>
    have DN : Hid (∀ e W', DD e W' = (e = .returned (.tuple #[zeroV, excA s]) ∧ Sep w Rs W')) := Lib.hid DA.out
    have SP : Hid (H.specM v (keyS s hs) = (zeroV, false, H)) := Lib.hid SPN.out
    simp only [V.val, Option.getD_none, Option.isSome_none, V.zero] at C2
    replace C2 := Lib.hid C2
    clear S2 DA SPN
    go_wp2_with fail
    refine C2.out.mono ?_
    rintro e w2 ⟨rfl, S3⟩
    clear C2 d0 d1 d2
    have S4 := S3.alloc (.cells #[.int .i64 0, .int .i64 0, .string ⟨#[]⟩] 33)
    have C3 := special_ok S4 (i + 4) (by simpa using HI.out) HF.out.1 HF.out.2 v s hs
    rw [SP.out] at C3
    have d0 := cellAt (S4.box (b := b) 3 rfl) 0 (v := .int .i64 v.kind) rfl
    have d1 := cellAt (S4.box (b := b) 3 rfl) 1 (v := .int .i64 v.n) rfl
    have d2 := cellAt (S4.box (b := b) 3 rfl) 2 (v := .string v.s) rfl
    simp only [List.set_cons_succ, HSET.out, V.val] at C3
    replace C3 := Lib.hid C3
    clear S3 S4
    go_wp2_with fail
    refine C3.out.mono ?_
    rintro e w3 ⟨rfl, S5⟩
    clear C3 d0 d1 d2
    have S6 := S5.alloc (.cells #[.int .i64 0, .int .i64 0, .string ⟨#[]⟩] 33)
    have C4 := Lib.hid (missing_ok S6 s)
    clear S5 S6
    go_wp2_with fail
    refine C4.out.mono ?_
    rintro e w4 ⟨rfl, S7⟩
    have ex := (S7.tail.tail).box (b := b + 1 + 1) 0 rfl
    have zx := (S7.tail.tail).box (b := b + 1) 1 rfl
    have S90 : Hid (Sep w (anyR (b + 1 + 1) :: anyR (b + 1) :: valB b v :: Rs) _) := Lib.hid (((S7.tail.tail).toAny 0 rfl).toAny 1 rfl)
    have x0 := cellAt zx 0 (v := .int .i64 0) rfl
    have x1 := cellAt zx 1 (v := .int .i64 0) rfl
    have x2 := cellAt zx 2 (v := .string ⟨#[]⟩) rfl
    have x3 := frozenAt zx 0
    have x4 := frozenAt zx 1
    have x5 := frozenAt zx 2
    have y0 := cellAt ex 0 (v := .string ⟨#[]⟩) rfl
    have y1 := cellAt ex 1 (v := .int .i64 0) rfl
    have y2 := cellAt ex 2 (v := .int .i64 0) rfl
    have y3 := cellAt ex 3 (v := .string ⟨#[]⟩) rfl
    have y4 := cellAt ex 4 (v := .bool false) rfl
    have y5 := frozenAt ex 0
    have y6 := frozenAt ex 1
    have y7 := frozenAt ex 2
    have y8 := frozenAt ex 3
    have y9 := frozenAt ex 4
    clear ex zx
    clear C4 S7
    go_wp2
    refine bodyPost_ret (v := .tuple #[zeroV, excA s]) (by simp [results, Try.results21, go_sem, x0, x1, x2, y0, y1, y2, y3, y4]) rfl ?_
    rw [DN.out]
    refine ⟨rfl, FR.out _ ?_⟩
    iterate 5 refine Sep.poke (q := b + 1 + 1) ?_ 0 rfl _ _
    iterate 3 refine Sep.poke (q := b + 1) ?_ 1 rfl _ _
    exact S90.out
  | some c =>
    simp only [V.val, Option.getD_some, Option.isSome_some] at C2
    replace C2 := Lib.hid C2
    clear S2
    go_wp2_with fail
    refine C2.out.mono ?_
    rintro e w2 ⟨rfl, S3⟩
    clear C2 d0 d1 d2
    obtain ⟨q, hq⟩ : ∃ gx_, (w2.heap.size) = gx_ := ⟨_, rfl⟩
    have S4 := S3.alloc (.cells #[.int .i64 c.kind, .int .i64 c.n, .string c.s] 33)
    rw [hq] at S4
    obtain ⟨g, hg⟩ : ∃ gx_, (H.get v (keyS s hs)) = gx_ := ⟨_, rfl⟩
    have HGT := Lib.hid hg
    obtain ⟨base, hbase⟩ : ∃ base : List Res, base = valB q c :: excB (b + 1 + 1) ⟨#[]⟩ :: zeroB (b + 1) :: valB b v :: Rs := ⟨_, rfl⟩
    replace S4 : Sep w ([] ++ base) (w2.alloc (.cells #[.int .i64 c.kind, .int .i64 c.n, .string c.s] 33)) := by rw [hbase]; exact S4
    have KG : Hid (∀ W (Q : List Res), Sep w (Q ++ base) W → Calls Try.prog 35 #[.pointer (some ⟨h, 0, none⟩), .agg #[.int .i64 v.kind, .int .i64 v.n, .string v.s], .agg #[.int .i64 3, .int .i64 0, .string s]] W fun e W' => e = .returned (.tuple #[.agg #[.int .i64 (g.getD V.zero).kind, .int .i64 (g.getD V.zero).n, .string (g.getD V.zero).s], .bool g.isSome]) ∧ Sep w (Q ++ base) W') := Lib.hid fun W Q S => by
      have h1 : (Q ++ base)[Q.length + (i + 4)]? = some (heapR h H) := by
        rw [List.getElem?_append_right (by omega), Nat.add_sub_cancel_left, hbase]; simpa using HI.out
      have := S.get_ _ h1 v (keyS s hs)
      rw [HGT.out] at this
      exact this.mono fun e W' ⟨e1, e2, _⟩ => ⟨e1, e2⟩
    have KY : Hid (∀ W (Q : List Res), Sep w (Q ++ base) W → Calls Try.prog 48 #[.string s] W fun e W' => e = .returned (.agg #[.int .i64 3, .int .i64 0, .string s]) ∧ Sep w (Q ++ base) W') := Lib.hid fun W Q T => (key_ok W s).mono fun e W' ⟨e1, e2⟩ => ⟨e1, T.later e2⟩
    have KK : Hid (∀ W (Q : List Res), Sep w (Q ++ base) W → W.cell? ⟨b, 0, none⟩ = some (.int .i64 v.kind) ∧ W.cell? ⟨b, 1, none⟩ = some (.int .i64 v.n) ∧ W.cell? ⟨b, 2, none⟩ = some (.string v.s)) := Lib.hid fun W Q T => by
      rw [hbase] at T
      have h1 := T.box (b := b) (o := .cells #[.int .i64 v.kind, .int .i64 v.n, .string v.s] 33) (Q.length + 3) (by rw [List.getElem?_append_right (by omega), Nat.add_sub_cancel_left]; rfl)
      exact ⟨cellAt h1 0 rfl, cellAt h1 1 rfl, cellAt h1 2 rfl⟩
    have HBASE := Lib.hid hbase
    obtain ⟨d0, d1, d2⟩ := KK.out _ [] S4
    replace S4 := Lib.hid S4
    clear hbase hg S3
    go_upto_region 8 with fail
    try rw [hq]
    obtain ⟨W4, hW4⟩ : ∃ gx_, ((w2.alloc (.cells #[.int .i64 c.kind, .int .i64 c.n, .string c.s] 33))) = gx_ := ⟨_, rfl⟩
    rw [hW4] at S4 ⊢
    clear hW4 d0 d1 d2
    go_cut [12, 13] (fun s12 s13 wx => ∃ qx, s12 = .pointer (some ⟨qx, 0, none⟩) ∧ s13 = .bool g.isSome ∧ Sep w (valB qx (g.getD V.zero) :: base) wx)
    case first =>
      have T0 : Sep w ([] ++ base) _ := S4.out.drew
      clear S4 DA SPN
      refine wp_region_held_drew (S := fun W => W.cell? ⟨b, 0, none⟩ = some (.int .i64 v.kind) ∧ W.cell? ⟨b, 1, none⟩ = some (.int .i64 v.n) ∧ W.cell? ⟨b, 2, none⟩ = some (.string v.s)) (by kernel_rfl) (KK.out _ [] T0) (fun hH => ?_)
      refine wpAnyH_take (i := 0) (v := _) (by simp only [List.getElem?_toArray, List.getElem?_cons_succ, List.getElem?_cons_zero]; rfl) (by kernel_rfl) (by kernel_rfl) (by kernel_rfl) (by exact fun _ _ _ h => h) (.inl ⟨by rfl, by (intro w hSw; try obtain ⟨s0, s1, s2⟩ := hSw); (go_simp; try rfl)⟩) hH ?_
      simp only [Act.put, List.setIfInBounds_toArray, List.set_cons_zero, List.set_cons_succ]
      refine wpAnyH_take (i := 1) (v := _) (by simp only [List.getElem?_toArray, List.getElem?_cons_succ, List.getElem?_cons_zero]; rfl) (by kernel_rfl) (by kernel_rfl) (by kernel_rfl) (by exact fun _ _ _ h => h) (.inl ⟨by rfl, by (intro w hSw; try obtain ⟨s0, s1, s2⟩ := hSw); (go_simp; try rfl)⟩) hH ?_
      simp only [Act.put, List.setIfInBounds_toArray, List.set_cons_zero, List.set_cons_succ]
      refine wpAnyH_take (i := 2) (v := _) (by simp only [List.getElem?_toArray, List.getElem?_cons_succ, List.getElem?_cons_zero]; rfl) (by kernel_rfl) (by kernel_rfl) (by kernel_rfl) (by exact fun _ _ _ h => h) (.inl ⟨by rfl, by (intro w hSw; try obtain ⟨s0, s1, s2⟩ := hSw); (go_simp; try rfl)⟩) hH ?_
      simp only [Act.put, List.setIfInBounds_toArray, List.set_cons_zero, List.set_cons_succ]
      refine wpAnyH_ready (rs := [3, 8]) (by kernel_rfl) (by simp) ?_
      refine AllReadyH.cons (by simp only [List.getElem?_toArray, List.getElem?_cons_succ, List.getElem?_cons_zero]; rfl) (fun K hK => ?_) (AllReadyH.cons (by simp only [List.getElem?_toArray, List.getElem?_cons_succ, List.getElem?_cons_zero]; rfl) (fun K hK => ?_) AllReadyH.nil)
      · go_simp
        go_wp2_with (go_at_call 48; refine (KY.out _ [] T0).mono ?_; rintro e w1 ⟨rfl, T1⟩)
        clear hH
        refine hK.out _ _ (KK.out _ [] T1) (fun hH => ?_)
        clear hK K
        refine wpAnyH_ready (rs := [4, 8]) (by kernel_rfl) (by simp) ?_
        refine AllReadyH.cons (by simp only [List.getElem?_toArray, List.getElem?_cons_succ, List.getElem?_cons_zero]; rfl) (fun K hK => ?_) (AllReadyH.cons (by simp only [List.getElem?_toArray, List.getElem?_cons_succ, List.getElem?_cons_zero]; rfl) (fun K hK => ?_) AllReadyH.nil)
        · go_simp
          go_wp2_with (go_at_call 35; refine (KG.out _ [] T1).mono ?_; rintro e w2 ⟨rfl, T2⟩)
          clear hH
          refine hK.out _ _ (KK.out _ [] T2) (fun hH => ?_)
          clear hK K
          refine wpAnyH_take (i := 5) (v := _) (by simp only [List.getElem?_toArray, List.getElem?_cons_succ, List.getElem?_cons_zero]; rfl) (by kernel_rfl) (by kernel_rfl) (by kernel_rfl) (by exact fun _ _ _ h => h) (.inl ⟨by rfl, by (intro w hSw; try obtain ⟨s0, s1, s2⟩ := hSw); (go_simp; try rfl)⟩) hH ?_
          simp only [Act.put, List.setIfInBounds_toArray, List.set_cons_zero, List.set_cons_succ]
          refine wpAnyH_take (i := 6) (v := _) (by simp only [List.getElem?_toArray, List.getElem?_cons_succ, List.getElem?_cons_zero]; rfl) (by kernel_rfl) (by kernel_rfl) (by kernel_rfl) (by exact fun _ _ _ h => h) (.inl ⟨by rfl, by (intro w hSw; try obtain ⟨s0, s1, s2⟩ := hSw); (go_simp; try rfl)⟩) hH ?_
          simp only [Act.put, List.setIfInBounds_toArray, List.set_cons_zero, List.set_cons_succ]
          refine wpAnyH_take (i := 7) (v := _) (by simp only [List.getElem?_toArray, List.getElem?_cons_succ, List.getElem?_cons_zero]; rfl) (by kernel_rfl) (by kernel_rfl) (by kernel_rfl) (by exact fun _ _ _ h => h) (.inl ⟨by rfl, by (intro w hSw; try obtain ⟨s0, s1, s2⟩ := hSw); (go_simp; try rfl)⟩) hH ?_
          simp only [Act.put, List.setIfInBounds_toArray, List.set_cons_zero, List.set_cons_succ]
          refine wpAnyH_ready (rs := [8]) (by kernel_rfl) (by simp) ?_
          refine AllReadyH.cons (by simp only [List.getElem?_toArray, List.getElem?_cons_succ, List.getElem?_cons_zero]; rfl) (fun K hK => ?_) AllReadyH.nil
          go_simp
          have T3 : Sep w ([boxR _ (.cells #[.int .i64 0, .int .i64 0, .string ⟨#[]⟩] 33)] ++ base) _ := Sep.alloc T2 (.cells #[.int .i64 0, .int .i64 0, .string ⟨#[]⟩] 33)
          try simp only [size_drew, World.size_alloc] at T3
          clear hH
          refine hK.out _ _ (KK.out _ [_] T3) (fun hH => ?_)
          clear hK K
          refine wpAnyH_ready (rs := [9]) (by kernel_rfl) (by simp) ?_
          refine AllReadyH.cons (by simp only [List.getElem?_toArray, List.getElem?_cons_succ, List.getElem?_cons_zero]; rfl) (fun K hK => ?_) AllReadyH.nil
          have hz := T3.box 0 rfl
          have z0 := cellAt hz 0 (v := .int .i64 0) rfl
          have z1 := cellAt hz 1 (v := .int .i64 0) rfl
          have z2 := cellAt hz 2 (v := .string ⟨#[]⟩) rfl
          have z3 := frozenAt hz 0
          have z4 := frozenAt hz 1
          have z5 := frozenAt hz 2
          go_simp
          clear hz z0 z1 z2 z3 z4 z5
          clear hH
          first | (have T4 : Sep w ([boxR _ (.cells #[.int .i64 (g.getD V.zero).kind, .int .i64 (g.getD V.zero).n, .string (g.getD V.zero).s] 33)] ++ base) _ := (Sep.alloc T2 (.cells #[.int .i64 (g.getD V.zero).kind, .int .i64 (g.getD V.zero).n, .string (g.getD V.zero).s] 33)); refine hK.out _ _ (KK.out _ [_] T4) (fun hH => ?_)) | (have T4 : Sep w ([boxR _ (.cells #[.int .i64 (g.getD V.zero).kind, .int .i64 (g.getD V.zero).n, .string (g.getD V.zero).s] 33)] ++ base) _ := (Sep.setBox (cs := #[.int .i64 (g.getD V.zero).kind, .int .i64 (g.getD V.zero).n, .string ⟨#[]⟩]) (t := 33) (Sep.setBox (cs := #[.int .i64 (g.getD V.zero).kind, .int .i64 0, .string ⟨#[]⟩]) (t := 33) (Sep.setBox (cs := #[.int .i64 0, .int .i64 0, .string ⟨#[]⟩]) (t := 33) T3 0 rfl 0 (.int .i64 (g.getD V.zero).kind)) 0 rfl 1 (.int .i64 (g.getD V.zero).n)) 0 rfl 2 (.string (g.getD V.zero).s)); refine hK.out _ _ (KK.out _ [_] T4) (fun hH => ?_))
          clear hK K
          refine wpAnyH_take (i := 10) (v := _) (by simp only [List.getElem?_toArray, List.getElem?_cons_succ, List.getElem?_cons_zero]; rfl) (by kernel_rfl) (by kernel_rfl) (by kernel_rfl) (by exact fun _ _ _ h => h) (.inl ⟨by rfl, by (intro w hSw; try obtain ⟨s0, s1, s2⟩ := hSw); (go_simp; try rfl)⟩) hH ?_
          simp only [Act.put, List.setIfInBounds_toArray, List.set_cons_zero, List.set_cons_succ]
          refine wpAnyH_done (by kernel_rfl) ?_ _
          go_wp2_with fail
          go_meet
          exact ⟨_, rfl, rfl, T4⟩
        · go_simp
          have T5 : Sep w ([boxR _ (.cells #[.int .i64 0, .int .i64 0, .string ⟨#[]⟩] 33)] ++ base) _ := Sep.alloc T1 (.cells #[.int .i64 0, .int .i64 0, .string ⟨#[]⟩] 33)
          try simp only [size_drew, World.size_alloc] at T5
          clear hH
          refine hK.out _ _ (KK.out _ [_] T5) (fun hH => ?_)
          clear hK K
          refine wpAnyH_ready (rs := [4]) (by kernel_rfl) (by simp) ?_
          refine AllReadyH.cons (by simp only [List.getElem?_toArray, List.getElem?_cons_succ, List.getElem?_cons_zero]; rfl) (fun K hK => ?_) AllReadyH.nil
          go_simp
          go_wp2_with (go_at_call 35; refine (KG.out _ [_] T5).mono ?_; rintro e w6 ⟨rfl, T6⟩)
          clear hH
          refine hK.out _ _ (KK.out _ [_] T6) (fun hH => ?_)
          clear hK K
          refine wpAnyH_take (i := 5) (v := _) (by simp only [List.getElem?_toArray, List.getElem?_cons_succ, List.getElem?_cons_zero]; rfl) (by kernel_rfl) (by kernel_rfl) (by kernel_rfl) (by exact fun _ _ _ h => h) (.inl ⟨by rfl, by (intro w hSw; try obtain ⟨s0, s1, s2⟩ := hSw); (go_simp; try rfl)⟩) hH ?_
          simp only [Act.put, List.setIfInBounds_toArray, List.set_cons_zero, List.set_cons_succ]
          refine wpAnyH_take (i := 6) (v := _) (by simp only [List.getElem?_toArray, List.getElem?_cons_succ, List.getElem?_cons_zero]; rfl) (by kernel_rfl) (by kernel_rfl) (by kernel_rfl) (by exact fun _ _ _ h => h) (.inl ⟨by rfl, by (intro w hSw; try obtain ⟨s0, s1, s2⟩ := hSw); (go_simp; try rfl)⟩) hH ?_
          simp only [Act.put, List.setIfInBounds_toArray, List.set_cons_zero, List.set_cons_succ]
          refine wpAnyH_take (i := 7) (v := _) (by simp only [List.getElem?_toArray, List.getElem?_cons_succ, List.getElem?_cons_zero]; rfl) (by kernel_rfl) (by kernel_rfl) (by kernel_rfl) (by exact fun _ _ _ h => h) (.inl ⟨by rfl, by (intro w hSw; try obtain ⟨s0, s1, s2⟩ := hSw); (go_simp; try rfl)⟩) hH ?_
          simp only [Act.put, List.setIfInBounds_toArray, List.set_cons_zero, List.set_cons_succ]
          refine wpAnyH_ready (rs := [9]) (by kernel_rfl) (by simp) ?_
          refine AllReadyH.cons (by simp only [List.getElem?_toArray, List.getElem?_cons_succ, List.getElem?_cons_zero]; rfl) (fun K hK => ?_) AllReadyH.nil
          have hz := T6.box 0 rfl
          have z0 := cellAt hz 0 (v := .int .i64 0) rfl
          have z1 := cellAt hz 1 (v := .int .i64 0) rfl
          have z2 := cellAt hz 2 (v := .string ⟨#[]⟩) rfl
          have z3 := frozenAt hz 0
          have z4 := frozenAt hz 1
          have z5 := frozenAt hz 2
          go_simp
          clear hz z0 z1 z2 z3 z4 z5
          clear hH
          have T7 : Sep w ([boxR _ (.cells #[.int .i64 (g.getD V.zero).kind, .int .i64 (g.getD V.zero).n, .string (g.getD V.zero).s] 33)] ++ base) _ := (Sep.setBox (cs := #[.int .i64 (g.getD V.zero).kind, .int .i64 (g.getD V.zero).n, .string ⟨#[]⟩]) (t := 33) (Sep.setBox (cs := #[.int .i64 (g.getD V.zero).kind, .int .i64 0, .string ⟨#[]⟩]) (t := 33) (Sep.setBox (cs := #[.int .i64 0, .int .i64 0, .string ⟨#[]⟩]) (t := 33) T6 0 rfl 0 (.int .i64 (g.getD V.zero).kind)) 0 rfl 1 (.int .i64 (g.getD V.zero).n)) 0 rfl 2 (.string (g.getD V.zero).s))
          refine hK.out _ _ (KK.out _ [_] T7) (fun hH => ?_)
          clear hK K
          refine wpAnyH_take (i := 10) (v := _) (by simp only [List.getElem?_toArray, List.getElem?_cons_succ, List.getElem?_cons_zero]; rfl) (by kernel_rfl) (by kernel_rfl) (by kernel_rfl) (by exact fun _ _ _ h => h) (.inl ⟨by rfl, by (intro w hSw; try obtain ⟨s0, s1, s2⟩ := hSw); (go_simp; try rfl)⟩) hH ?_
          simp only [Act.put, List.setIfInBounds_toArray, List.set_cons_zero, List.set_cons_succ]
          refine wpAnyH_done (by kernel_rfl) ?_ _
          go_wp2_with fail
          go_meet
          exact ⟨_, rfl, rfl, T7⟩
      · go_simp
        have T8 : Sep w ([boxR _ (.cells #[.int .i64 0, .int .i64 0, .string ⟨#[]⟩] 33)] ++ base) _ := Sep.alloc T0 (.cells #[.int .i64 0, .int .i64 0, .string ⟨#[]⟩] 33)
        try simp only [size_drew, World.size_alloc] at T8
        clear hH
        refine hK.out _ _ (KK.out _ [_] T8) (fun hH => ?_)
        clear hK K
        refine wpAnyH_ready (rs := [3]) (by kernel_rfl) (by simp) ?_
        refine AllReadyH.cons (by simp only [List.getElem?_toArray, List.getElem?_cons_succ, List.getElem?_cons_zero]; rfl) (fun K hK => ?_) AllReadyH.nil
        go_simp
        go_wp2_with (go_at_call 48; refine (KY.out _ [_] T8).mono ?_; rintro e w9 ⟨rfl, T9⟩)
        clear hH
        refine hK.out _ _ (KK.out _ [_] T9) (fun hH => ?_)
        clear hK K
        refine wpAnyH_ready (rs := [4]) (by kernel_rfl) (by simp) ?_
        refine AllReadyH.cons (by simp only [List.getElem?_toArray, List.getElem?_cons_succ, List.getElem?_cons_zero]; rfl) (fun K hK => ?_) AllReadyH.nil
        go_simp
        go_wp2_with (go_at_call 35; refine (KG.out _ [_] T9).mono ?_; rintro e w10 ⟨rfl, T10⟩)
        clear hH
        refine hK.out _ _ (KK.out _ [_] T10) (fun hH => ?_)
        clear hK K
        refine wpAnyH_take (i := 5) (v := _) (by simp only [List.getElem?_toArray, List.getElem?_cons_succ, List.getElem?_cons_zero]; rfl) (by kernel_rfl) (by kernel_rfl) (by kernel_rfl) (by exact fun _ _ _ h => h) (.inl ⟨by rfl, by (intro w hSw; try obtain ⟨s0, s1, s2⟩ := hSw); (go_simp; try rfl)⟩) hH ?_
        simp only [Act.put, List.setIfInBounds_toArray, List.set_cons_zero, List.set_cons_succ]
        refine wpAnyH_take (i := 6) (v := _) (by simp only [List.getElem?_toArray, List.getElem?_cons_succ, List.getElem?_cons_zero]; rfl) (by kernel_rfl) (by kernel_rfl) (by kernel_rfl) (by exact fun _ _ _ h => h) (.inl ⟨by rfl, by (intro w hSw; try obtain ⟨s0, s1, s2⟩ := hSw); (go_simp; try rfl)⟩) hH ?_
        simp only [Act.put, List.setIfInBounds_toArray, List.set_cons_zero, List.set_cons_succ]
        refine wpAnyH_take (i := 7) (v := _) (by simp only [List.getElem?_toArray, List.getElem?_cons_succ, List.getElem?_cons_zero]; rfl) (by kernel_rfl) (by kernel_rfl) (by kernel_rfl) (by exact fun _ _ _ h => h) (.inl ⟨by rfl, by (intro w hSw; try obtain ⟨s0, s1, s2⟩ := hSw); (go_simp; try rfl)⟩) hH ?_
        simp only [Act.put, List.setIfInBounds_toArray, List.set_cons_zero, List.set_cons_succ]
        refine wpAnyH_ready (rs := [9]) (by kernel_rfl) (by simp) ?_
        refine AllReadyH.cons (by simp only [List.getElem?_toArray, List.getElem?_cons_succ, List.getElem?_cons_zero]; rfl) (fun K hK => ?_) AllReadyH.nil
        have hz := T10.box 0 rfl
        have z0 := cellAt hz 0 (v := .int .i64 0) rfl
        have z1 := cellAt hz 1 (v := .int .i64 0) rfl
        have z2 := cellAt hz 2 (v := .string ⟨#[]⟩) rfl
        have z3 := frozenAt hz 0
        have z4 := frozenAt hz 1
        have z5 := frozenAt hz 2
        go_simp
        clear hz z0 z1 z2 z3 z4 z5
        clear hH
        have T11 : Sep w ([boxR _ (.cells #[.int .i64 (g.getD V.zero).kind, .int .i64 (g.getD V.zero).n, .string (g.getD V.zero).s] 33)] ++ base) _ := (Sep.setBox (cs := #[.int .i64 (g.getD V.zero).kind, .int .i64 (g.getD V.zero).n, .string ⟨#[]⟩]) (t := 33) (Sep.setBox (cs := #[.int .i64 (g.getD V.zero).kind, .int .i64 0, .string ⟨#[]⟩]) (t := 33) (Sep.setBox (cs := #[.int .i64 0, .int .i64 0, .string ⟨#[]⟩]) (t := 33) T10 0 rfl 0 (.int .i64 (g.getD V.zero).kind)) 0 rfl 1 (.int .i64 (g.getD V.zero).n)) 0 rfl 2 (.string (g.getD V.zero).s))
        refine hK.out _ _ (KK.out _ [_] T11) (fun hH => ?_)
        clear hK K
        refine wpAnyH_take (i := 10) (v := _) (by simp only [List.getElem?_toArray, List.getElem?_cons_succ, List.getElem?_cons_zero]; rfl) (by kernel_rfl) (by kernel_rfl) (by kernel_rfl) (by exact fun _ _ _ h => h) (.inl ⟨by rfl, by (intro w hSw; try obtain ⟨s0, s1, s2⟩ := hSw); (go_simp; try rfl)⟩) hH ?_
        simp only [Act.put, List.setIfInBounds_toArray, List.set_cons_zero, List.set_cons_succ]
        refine wpAnyH_done (by kernel_rfl) ?_ _
        go_wp2_with fail
        go_meet
        exact ⟨_, rfl, rfl, T11⟩
    case rest =>
      obtain ⟨qx, rfl, rfl, S5⟩ := hcut
      rw [HBASE.out] at S5
      clear S4 KG KK KY HBASE hq
      cases g with
      | some x =>
        have DN : Hid (∀ e W', DD e W' = (e = .returned (.tuple #[x.val, excZ]) ∧ Sep w Rs W')) := Lib.hid (by
          have := DA.out; rw [HGT.out] at this; exact this)
        simp only [Option.getD_some, Option.isSome_some] at S5 ⊢
        have d0 := cellAt (S5.box (b := qx) 0 rfl) 0 (v := .int .i64 x.kind) rfl
        have d1 := cellAt (S5.box (b := qx) 0 rfl) 1 (v := .int .i64 x.n) rfl
        have d2 := cellAt (S5.box (b := qx) 0 rfl) 2 (v := .string x.s) rfl
        have ex := (S5.tail.tail).box (b := b + 1 + 1) 0 rfl
        have zx := (S5.tail.tail).box (b := b + 1) 1 rfl
        have S90 : Hid (Sep w (anyR (b + 1 + 1) :: anyR (b + 1) :: valB b v :: Rs) _) := Lib.hid (((S5.tail.tail).toAny 0 rfl).toAny 1 rfl)
        have x0 := cellAt zx 0 (v := .int .i64 0) rfl
        have x1 := cellAt zx 1 (v := .int .i64 0) rfl
        have x2 := cellAt zx 2 (v := .string ⟨#[]⟩) rfl
        have x3 := frozenAt zx 0
        have x4 := frozenAt zx 1
        have x5 := frozenAt zx 2
        have y0 := cellAt ex 0 (v := .string ⟨#[]⟩) rfl
        have y1 := cellAt ex 1 (v := .int .i64 0) rfl
        have y2 := cellAt ex 2 (v := .int .i64 0) rfl
        have y3 := cellAt ex 3 (v := .string ⟨#[]⟩) rfl
        have y4 := cellAt ex 4 (v := .bool false) rfl
        have y5 := frozenAt ex 0
        have y6 := frozenAt ex 1
        have y7 := frozenAt ex 2
        have y8 := frozenAt ex 3
        have y9 := frozenAt ex 4
        clear ex zx
        clear S5 DA SPN
        go_wp2
        refine bodyPost_ret (v := .tuple #[.agg #[.int .i64 x.kind, .int .i64 x.n, .string x.s], excZ]) (by simp [results, Try.results21, go_sem, x0, x1, x2, y0, y1, y2, y3, y4]) rfl ?_
        rw [DN.out]
        refine ⟨rfl, FR.out _ ?_⟩
        iterate 5 refine Sep.poke (q := b + 1 + 1) ?_ 0 rfl _ _
        iterate 3 refine Sep.poke (q := b + 1) ?_ 1 rfl _ _
        exact S90.out
      | none =>
        simp only [Option.getD_none, Option.isSome_none] at S5 ⊢
        have C3 := special_ok S5 (i + 5) (by simpa using HI.out) HF.out.1 HF.out.2 v s hs
        have d0 := cellAt (S5.box (b := b) 4 rfl) 0 (v := .int .i64 v.kind) rfl
        have d1 := cellAt (S5.box (b := b) 4 rfl) 1 (v := .int .i64 v.n) rfl
        have d2 := cellAt (S5.box (b := b) 4 rfl) 2 (v := .string v.s) rfl
        obtain ⟨R3, hR3⟩ : ∃ gx_, (H.find c (keyS s hs)) = gx_ := ⟨_, rfl⟩
        have HR3 := Lib.hid hR3
        clear hR3
        cases R3 with
        | none =>
          have SP : Hid (H.specM v (keyS s hs) = (zeroV, false, H)) := Lib.hid (by have := SPN.out; rw [HR3.out] at this; exact this)
          have DN : Hid (∀ e W', DD e W' = (e = .returned (.tuple #[zeroV, excA s]) ∧ Sep w Rs W')) := Lib.hid (by
            have := DA.out; rw [HGT.out, HR3.out] at this; exact this)
          rw [SP.out] at C3
          simp only [List.set_cons_succ, HSET.out, V.val] at C3
          replace C3 := Lib.hid C3
          clear S5 DA SPN
          go_wp2_with fail
          refine C3.out.mono ?_
          rintro e w3 ⟨rfl, S6⟩
          clear C3 d0 d1 d2
          have S7 := S6.alloc (.cells #[.int .i64 0, .int .i64 0, .string ⟨#[]⟩] 33)
          have C4 := Lib.hid (missing_ok S7 s)
          clear S6 S7
          go_wp2_with fail
          refine C4.out.mono ?_
          rintro e w4 ⟨rfl, S8⟩
          have ex := (S8.tail.tail.tail).box (b := b + 1 + 1) 0 rfl
          have zx := (S8.tail.tail.tail).box (b := b + 1) 1 rfl
          have S90 : Hid (Sep w (anyR (b + 1 + 1) :: anyR (b + 1) :: valB b v :: Rs) _) := Lib.hid (((S8.tail.tail.tail).toAny 0 rfl).toAny 1 rfl)
          have x0 := cellAt zx 0 (v := .int .i64 0) rfl
          have x1 := cellAt zx 1 (v := .int .i64 0) rfl
          have x2 := cellAt zx 2 (v := .string ⟨#[]⟩) rfl
          have x3 := frozenAt zx 0
          have x4 := frozenAt zx 1
          have x5 := frozenAt zx 2
          have y0 := cellAt ex 0 (v := .string ⟨#[]⟩) rfl
          have y1 := cellAt ex 1 (v := .int .i64 0) rfl
          have y2 := cellAt ex 2 (v := .int .i64 0) rfl
          have y3 := cellAt ex 3 (v := .string ⟨#[]⟩) rfl
          have y4 := cellAt ex 4 (v := .bool false) rfl
          have y5 := frozenAt ex 0
          have y6 := frozenAt ex 1
          have y7 := frozenAt ex 2
          have y8 := frozenAt ex 3
          have y9 := frozenAt ex 4
          clear ex zx
          clear C4 S8
          go_wp2
          refine bodyPost_ret (v := .tuple #[zeroV, excA s]) (by simp [results, Try.results21, go_sem, x0, x1, x2, y0, y1, y2, y3, y4]) rfl ?_
          rw [DN.out]
          refine ⟨rfl, FR.out _ ?_⟩
          iterate 5 refine Sep.poke (q := b + 1 + 1) ?_ 0 rfl _ _
          iterate 3 refine Sep.poke (q := b + 1) ?_ 1 rfl _ _
          exact S90.out
        | some x =>
          have SP : Hid (H.specM v (keyS s hs) = ((H.boundM v x).1, true, (H.boundM v x).2)) := Lib.hid (by have := SPN.out; rw [HR3.out] at this; exact this)
          have DN : Hid (∀ e W', DD e W' = (e = .returned (.tuple #[(H.boundM v x).1, excZ]) ∧ Sep w (Rs.set i (heapR h (H.boundM v x).2)) W')) := Lib.hid (by
            have := DA.out; rw [HGT.out, HR3.out] at this; exact this)
          rw [SP.out] at C3
          obtain ⟨p1, p2, p3, hp⟩ := boundM_agg H v x
          rw [hp] at C3 DN
          simp only [List.set_cons_succ, V.val] at C3
          obtain ⟨H2, hH2⟩ : ∃ gx_, ((H.boundM v x).2) = gx_ := ⟨_, rfl⟩
          rw [hH2] at C3 DN
          replace C3 := Lib.hid C3
          have FR2 : Hid (∀ W, Sep w (anyR (b + 1 + 1) :: anyR (b + 1) :: valB b v :: Rs.set i (heapR h H2)) W → Sep w (Rs.set i (heapR h H2)) W) := Lib.hid fun W T => T.tail.tail.tail
          clear S5 DA SPN SP hp hH2
          go_wp2_with fail
          refine C3.out.mono ?_
          rintro e w3 ⟨rfl, S6⟩
          clear C3 d0 d1 d2
          obtain ⟨q2, hq2⟩ : ∃ gx_, (w3.heap.size) = gx_ := ⟨_, rfl⟩
          have S7 := S6.alloc (.cells #[.int .i64 p1, .int .i64 p2, .string p3] 33)
          rw [hq2] at S7
          have h7 := S7.box (b := q2) 0 rfl
          have d0 := cellAt h7 0 (v := .int .i64 p1) rfl
          have d1 := cellAt h7 1 (v := .int .i64 p2) rfl
          have d2 := cellAt h7 2 (v := .string p3) rfl
          have ex := (S7.tail.tail.tail).box (b := b + 1 + 1) 0 rfl
          have zx := (S7.tail.tail.tail).box (b := b + 1) 1 rfl
          have S90 : Hid (Sep w (anyR (b + 1 + 1) :: anyR (b + 1) :: valB b v :: Rs.set i (heapR h H2)) _) := Lib.hid (((S7.tail.tail.tail).toAny 0 rfl).toAny 1 rfl)
          have x0 := cellAt zx 0 (v := .int .i64 0) rfl
          have x1 := cellAt zx 1 (v := .int .i64 0) rfl
          have x2 := cellAt zx 2 (v := .string ⟨#[]⟩) rfl
          have x3 := frozenAt zx 0
          have x4 := frozenAt zx 1
          have x5 := frozenAt zx 2
          have y0 := cellAt ex 0 (v := .string ⟨#[]⟩) rfl
          have y1 := cellAt ex 1 (v := .int .i64 0) rfl
          have y2 := cellAt ex 2 (v := .int .i64 0) rfl
          have y3 := cellAt ex 3 (v := .string ⟨#[]⟩) rfl
          have y4 := cellAt ex 4 (v := .bool false) rfl
          have y5 := frozenAt ex 0
          have y6 := frozenAt ex 1
          have y7 := frozenAt ex 2
          have y8 := frozenAt ex 3
          have y9 := frozenAt ex 4
          clear ex zx
          clear S6 S7 h7
          go_wp2
          refine bodyPost_ret (v := .tuple #[.agg #[.int .i64 p1, .int .i64 p2, .string p3], excZ]) (by simp [results, Try.results21, go_sem, x0, x1, x2, y0, y1, y2, y3, y4]) rfl ?_
          rw [DN.out]
          refine ⟨rfl, FR2.out _ ?_⟩
          iterate 5 refine Sep.poke (q := b + 1 + 1) ?_ 0 rfl _ _
          iterate 3 refine Sep.poke (q := b + 1) ?_ 1 rfl _ _
          exact S90.out
theorem get_ok (S : Sep w Rs W) (i : Nat) (hi : Rs[i]? = some (heapR h H)) {N : Nat} (F : H.Fit N) (hN : N + 1 ≤ 4000000) (v : V) (s : ByteArray) (hs : s.size ≤ maxLen) :
    Calls Try.prog 21 #[.pointer (some ⟨h, 0, none⟩), v.val, .string s] W (GetDone w Rs i h s (H.getA v (keyS s hs)) H) := by
  cases hc : H.isClass v with
  | true => exact get_class S i hi F hN v s hs hc
  | false => exact get_else S i hi F hN v s hs hc
end
end Go.Proofs.Ytkocenlglodklaa
