import Derived.Test.YtkocenlglodklaaObjF
/- Objects: Set, where the space is open. -/
namespace Go.Proofs.Ytkocenlglodklaa
set_option linter.unusedSimpArgs false
open Go.RowKit
set_option linter.unusedVariables false
abbrev memError : ByteArray := ⟨#[77, 101, 109, 111, 114, 121, 69, 114, 114, 111, 114]⟩
section
variable {w W : World} {Rs : List Res} {h : Nat} {H : HeapM}
set_option maxRecDepth 100000 in
set_option maxHeartbeats 1600000 in
theorem set_ok (S : Sep w Rs W) (i : Nat) (hi : Rs[i]? = some (heapR h H)) (v x : V) (s : ByteArray) (hs : s.size ≤ maxLen) (ho : H.opens v = true) :
    Calls Try.prog 20 #[.pointer (some ⟨h, 0, none⟩), v.val, .string s, x.val] W fun e W' => e = .returned (if H.canPut v (keyS s hs) = true then excZ else excN memError) ∧ Sep w (Rs.set i (heapR h (H.put v (keyS s hs) x))) W' := by
  obtain ⟨b, hb⟩ : ∃ gx_, (W.heap.size) = gx_ := ⟨_, rfl⟩
  have S1 := ((S.alloc (.cells #[.int .i64 v.kind, .int .i64 v.n, .string v.s] 33)).alloc (.cells #[.int .i64 x.kind, .int .i64 x.n, .string x.s] 33)).alloc (.cells #[.string ⟨#[]⟩, .int .i64 0, .int .i64 0, .string ⟨#[]⟩, .bool false] 45)
  simp only [World.size_alloc, hb] at S1
  have C1 := open_ok S1 (i + 3) (by simpa using hi) v
  rw [ho] at C1
  have d0 := cellAt (S1.box (b := b) 2 rfl) 0 (v := .int .i64 v.kind) rfl
  have d1 := cellAt (S1.box (b := b) 2 rfl) 1 (v := .int .i64 v.n) rfl
  have d2 := cellAt (S1.box (b := b) 2 rfl) 2 (v := .string v.s) rfl
  obtain ⟨base, hbase⟩ : ∃ base, base = excB (b + 1 + 1) ⟨#[]⟩ :: valB (b + 1) x :: valB b v :: Rs := ⟨_, rfl⟩
  obtain ⟨base2, hbase2⟩ : ∃ base2, base2 = excB (b + 1 + 1) ⟨#[]⟩ :: valB (b + 1) x :: valB b v :: Rs.set i (heapR h (H.put v (keyS s hs) x)) := ⟨_, rfl⟩
  have KP : Hid (∀ W, Sep w base W → Calls Try.prog 31 #[.pointer (some ⟨h, 0, none⟩), .agg #[.int .i64 v.kind, .int .i64 v.n, .string v.s], .agg #[.int .i64 3, .int .i64 0, .string s], .agg #[.int .i64 x.kind, .int .i64 x.n, .string x.s]] W fun e W' => e = .returned (.bool (H.canPut v (keyS s hs))) ∧ Sep w base2 W') := Lib.hid fun W T => by
    rw [hbase] at T
    have := T.put (i + 3) (by simpa using hi) v (keyS s hs) x
    simp only [List.set_cons_succ] at this
    rw [hbase2]
    exact this
  have KY : Hid (∀ W, Sep w base W → Calls Try.prog 48 #[.string s] W fun e W' => e = .returned (.agg #[.int .i64 3, .int .i64 0, .string s]) ∧ Sep w base W') := Lib.hid fun W T => (key_ok W s).mono fun e W' ⟨e1, e2⟩ => ⟨e1, T.later e2⟩
  have ALL : Hid (∀ W E Y, Sep w (E :: valB (b + 1) x :: valB b v :: Y) W → (W.cell? ⟨b, 0, none⟩ = some (.int .i64 v.kind) ∧ W.cell? ⟨b, 1, none⟩ = some (.int .i64 v.n) ∧ W.cell? ⟨b, 2, none⟩ = some (.string v.s)) ∧ W.cell? ⟨b + 1, 0, none⟩ = some (.int .i64 x.kind) ∧ W.cell? ⟨b + 1, 1, none⟩ = some (.int .i64 x.n) ∧ W.cell? ⟨b + 1, 2, none⟩ = some (.string x.s)) := Lib.hid fun W X Y T => by
    have g1 := T.box (b := b + 1) (o := .cells #[.int .i64 x.kind, .int .i64 x.n, .string x.s] 33) 1 rfl
    have g2 := T.box (b := b) (o := .cells #[.int .i64 v.kind, .int .i64 v.n, .string v.s] 33) 2 rfl
    exact ⟨⟨cellAt g2 0 rfl, cellAt g2 1 rfl, cellAt g2 2 rfl⟩, cellAt g1 0 rfl, cellAt g1 1 rfl, cellAt g1 2 rfl⟩
  have KK : Hid (∀ W, Sep w base W → _) := Lib.hid fun W T => ALL.out W _ _ (by rw [hbase] at T; exact T)
  have KK2 : Hid (∀ W, Sep w base2 W → _) := Lib.hid fun W T => ALL.out W _ _ (by rw [hbase2] at T; exact T)
  have HB1 := Lib.hid hbase
  have HB2 := Lib.hid hbase2
  obtain ⟨RS, hRS⟩ : ∃ gx_, (Rs.set i (heapR h (H.put v (keyS s hs) x))) = gx_ := ⟨_, rfl⟩
  rw [hRS] at HB2 ⊢
  obtain ⟨cp, hcp⟩ : ∃ gx_, (H.canPut v (keyS s hs)) = gx_ := ⟨_, rfl⟩
  rw [hcp] at KP ⊢
  simp only [V.val] at C1 ⊢
  replace C1 := Lib.hid C1
  clear S S1 hbase hbase2 hi ALL hRS hcp ho
  go_enter Try.func20, Try.ntmps20
  go_wp2_with fail
  try rw [hb]
  refine C1.out.mono ?_
  rintro e w1 ⟨rfl, S3⟩
  clear C1 d0 d1 d2 hb
  have S4 : Sep w base w1 := by rw [HB1.out]; exact S3
  obtain ⟨⟨d0, d1, d2⟩, c0, c1, c2⟩ := KK.out _ S4
  replace S4 := Lib.hid S4
  clear S3
  go_upto_region 3 with fail
  go_cut [16] (fun s16 wx => s16 = .bool (!cp) ∧ Sep w base2 wx)
  case first =>
    have T0 := S4.out
    clear S4
    go_region_held3 (fun W => (W.cell? ⟨b, 0, none⟩ = some (.int .i64 v.kind) ∧ W.cell? ⟨b, 1, none⟩ = some (.int .i64 v.n) ∧ W.cell? ⟨b, 2, none⟩ = some (.string v.s)) ∧ W.cell? ⟨b + 1, 0, none⟩ = some (.int .i64 x.kind) ∧ W.cell? ⟨b + 1, 1, none⟩ = some (.int .i64 x.n) ∧ W.cell? ⟨b + 1, 2, none⟩ = some (.string x.s))
      (first | exact KK.out _ (by assumption) | exact KK.out _ (Sep.drew (by assumption)) | exact KK2.out _ (by assumption))
      (first
        | (go_at_call 48; refine (KY.out _ (by first | assumption | exact Sep.drew (by assumption))).mono ?_; rintro e w6 ⟨rfl, T1⟩)
        | (go_at_call 31; refine (KP.out _ (by assumption)).mono ?_; rintro e w6 ⟨rfl, T1⟩))
    all_goals (go_wp2_with fail; go_meet; exact ⟨rfl, by assumption⟩)
  case rest =>
    obtain ⟨rfl, S9⟩ := hcut
    rw [HB2.out] at S9
    have e2 := S9.box (b := b + 1 + 1) 0 rfl
    have S10 : Hid (Sep w (anyR (b + 1 + 1) :: valB (b + 1) x :: valB b v :: RS) _) := Lib.hid (S9.toAny 0 rfl)
    have FR : Hid (∀ W, Sep w (anyR (b + 1 + 1) :: valB (b + 1) x :: valB b v :: RS) W → Sep w RS W) := Lib.hid fun W T => T.tail.tail.tail
    have y0 := cellAt e2 0 (v := .string ⟨#[]⟩) rfl
    have y1 := cellAt e2 1 (v := .int .i64 0) rfl
    have y2 := cellAt e2 2 (v := .int .i64 0) rfl
    have y3 := cellAt e2 3 (v := .string ⟨#[]⟩) rfl
    have y4 := cellAt e2 4 (v := .bool false) rfl
    have y5 := frozenAt e2 0
    have y6 := frozenAt e2 1
    have y7 := frozenAt e2 2
    have y8 := frozenAt e2 3
    have y9 := frozenAt e2 4
    clear S9 e2 S4 d0 d1 d2 c0 c1 c2
    cases cp with
    | true =>
      go_wp2
      refine bodyPost_ret (v := excZ) (by simp [results, Try.results20, go_sem, y0, y1, y2, y3, y4]) rfl ⟨rfl, FR.out _ ?_⟩
      iterate 5 refine Sep.poke (q := b + 1 + 1) ?_ 0 rfl _ _
      exact S10.out
    | false =>
      go_wp2
      refine bodyPost_ret (v := excN memError) (by simp [results, Try.results20, go_sem, y0, y1, y2, y3, y4]) rfl ⟨rfl, FR.out _ ?_⟩
      iterate 5 refine Sep.poke (q := b + 1 + 1) ?_ 0 rfl _ _
      exact S10.out
end
end Go.Proofs.Ytkocenlglodklaa
/- Objects: Set, where the space is not open. -/
namespace Go.Proofs.Ytkocenlglodklaa
set_option linter.unusedSimpArgs false
open Go.RowKit
set_option linter.unusedVariables false
section
variable {w W : World} {Rs : List Res} {h : Nat} {H : HeapM}
set_option maxRecDepth 100000 in
set_option maxHeartbeats 1600000 in
theorem set_no (S : Sep w Rs W) (i : Nat) (hi : Rs[i]? = some (heapR h H)) (v x : V) (s : ByteArray) (ho : H.opens v = false) :
    Calls Try.prog 20 #[.pointer (some ⟨h, 0, none⟩), v.val, .string s, x.val] W fun e W' => e = .returned (excA s) ∧ Sep w Rs W' := by
  obtain ⟨b, hb⟩ : ∃ gx_, (W.heap.size) = gx_ := ⟨_, rfl⟩
  have S1 := ((S.alloc (.cells #[.int .i64 v.kind, .int .i64 v.n, .string v.s] 33)).alloc (.cells #[.int .i64 x.kind, .int .i64 x.n, .string x.s] 33)).alloc (.cells #[.string ⟨#[]⟩, .int .i64 0, .int .i64 0, .string ⟨#[]⟩, .bool false] 45)
  simp only [World.size_alloc, hb] at S1
  have C1 := open_ok S1 (i + 3) (by simpa using hi) v
  rw [ho] at C1
  have d0 := cellAt (S1.box (b := b) 2 rfl) 0 (v := .int .i64 v.kind) rfl
  have d1 := cellAt (S1.box (b := b) 2 rfl) 1 (v := .int .i64 v.n) rfl
  have d2 := cellAt (S1.box (b := b) 2 rfl) 2 (v := .string v.s) rfl
  have FR : Hid (∀ W, Sep w (anyR (b + 1 + 1) :: valB (b + 1) x :: valB b v :: Rs) W → Sep w Rs W) := Lib.hid fun W T => T.tail.tail.tail
  simp only [V.val] at C1 ⊢
  replace C1 := Lib.hid C1
  clear S S1 hi ho
  go_enter Try.func20, Try.ntmps20
  go_wp2_with fail
  try rw [hb]
  refine C1.out.mono ?_
  rintro e w1 ⟨rfl, S3⟩
  clear C1 d0 d1 d2 hb
  have C2 := Lib.hid (missing_ok S3 s)
  clear S3
  go_wp2_with fail
  refine C2.out.mono ?_
  rintro e w2 ⟨rfl, S9⟩
  clear C2
  have e2 := S9.box (b := b + 1 + 1) 0 rfl
  have S10 : Hid (Sep w (anyR (b + 1 + 1) :: valB (b + 1) x :: valB b v :: Rs) _) := Lib.hid (S9.toAny 0 rfl)
  have y0 := cellAt e2 0 (v := .string ⟨#[]⟩) rfl
  have y1 := cellAt e2 1 (v := .int .i64 0) rfl
  have y2 := cellAt e2 2 (v := .int .i64 0) rfl
  have y3 := cellAt e2 3 (v := .string ⟨#[]⟩) rfl
  have y4 := cellAt e2 4 (v := .bool false) rfl
  have y5 := frozenAt e2 0
  have y6 := frozenAt e2 1
  have y7 := frozenAt e2 2
  have y8 := frozenAt e2 3
  have y9 := frozenAt e2 4
  clear S9 e2
  go_wp2
  refine bodyPost_ret (v := excA s) (by simp [results, Try.results20, go_sem, y0, y1, y2, y3, y4]) rfl ⟨rfl, FR.out _ ?_⟩
  iterate 5 refine Sep.poke (q := b + 1 + 1) ?_ 0 rfl _ _
  exact S10.out
end
end Go.Proofs.Ytkocenlglodklaa
/- Objects: Del. -/
namespace Go.Proofs.Ytkocenlglodklaa
set_option linter.unusedSimpArgs false
open Go.RowKit
set_option linter.unusedVariables false
section
variable {w W : World} {Rs : List Res} {h : Nat} {H : HeapM}
set_option maxRecDepth 100000 in
set_option maxHeartbeats 1600000 in
theorem del_ok (S : Sep w Rs W) (i : Nat) (hi : Rs[i]? = some (heapR h H)) (v : V) (s : ByteArray) (hs : s.size ≤ maxLen) (ho : H.opens v = true) :
    Calls Try.prog 37 #[.pointer (some ⟨h, 0, none⟩), v.val, .string s] W fun e W' => e = .returned (if H.has v (keyS s hs) = true then excZ else excA s) ∧ Sep w (Rs.set i (heapR h (H.del v (keyS s hs)))) W' := by
  obtain ⟨b, hb⟩ : ∃ gx_, (W.heap.size) = gx_ := ⟨_, rfl⟩
  have S1 := (S.alloc (.cells #[.int .i64 v.kind, .int .i64 v.n, .string v.s] 33)).alloc (.cells #[.string ⟨#[]⟩, .int .i64 0, .int .i64 0, .string ⟨#[]⟩, .bool false] 45)
  simp only [World.size_alloc, hb] at S1
  obtain ⟨base, hbase⟩ : ∃ base, base = excB (b + 1) ⟨#[]⟩ :: valB b v :: Rs := ⟨_, rfl⟩
  obtain ⟨base2, hbase2⟩ : ∃ base2, base2 = excB (b + 1) ⟨#[]⟩ :: valB b v :: Rs.set i (heapR h (H.del v (keyS s hs))) := ⟨_, rfl⟩
  have KO : Hid (∀ W, Sep w base W → Calls Try.prog 51 #[.pointer (some ⟨h, 0, none⟩), .agg #[.int .i64 v.kind, .int .i64 v.n, .string v.s]] W fun e W' => e = .returned (.bool true) ∧ Sep w base W') := Lib.hid fun W T => by
    rw [hbase] at T ⊢
    have := open_ok T (i + 2) (by simpa using hi) v
    rw [ho] at this
    exact this
  have KD : Hid (∀ W, Sep w base W → Calls Try.prog 63 #[.pointer (some ⟨h, 0, none⟩), .agg #[.int .i64 v.kind, .int .i64 v.n, .string v.s], .agg #[.int .i64 3, .int .i64 0, .string s]] W fun e W' => e = .returned (.bool (H.has v (keyS s hs))) ∧ Sep w base2 W') := Lib.hid fun W T => by
    rw [hbase] at T
    have := T.del (i + 2) (by simpa using hi) v (keyS s hs)
    simp only [List.set_cons_succ] at this
    rw [hbase2]
    exact this
  have KY : Hid (∀ W, Sep w base W → Calls Try.prog 48 #[.string s] W fun e W' => e = .returned (.agg #[.int .i64 3, .int .i64 0, .string s]) ∧ Sep w base W') := Lib.hid fun W T => (key_ok W s).mono fun e W' ⟨e1, e2⟩ => ⟨e1, T.later e2⟩
  have ALL : Hid (∀ W E Y, Sep w (E :: valB b v :: Y) W → W.cell? ⟨b, 0, none⟩ = some (.int .i64 v.kind) ∧ W.cell? ⟨b, 1, none⟩ = some (.int .i64 v.n) ∧ W.cell? ⟨b, 2, none⟩ = some (.string v.s)) := Lib.hid fun W X Y T => by
    have g2 := T.box (b := b) (o := .cells #[.int .i64 v.kind, .int .i64 v.n, .string v.s] 33) 1 rfl
    exact ⟨cellAt g2 0 rfl, cellAt g2 1 rfl, cellAt g2 2 rfl⟩
  have KK : Hid (∀ W, Sep w base W → _) := Lib.hid fun W T => ALL.out W _ _ (by rw [hbase] at T; exact T)
  have KK2 : Hid (∀ W, Sep w base2 W → _) := Lib.hid fun W T => ALL.out W _ _ (by rw [hbase2] at T; exact T)
  rw [← hbase] at S1
  have S4 := S1
  have d0 := (KK.out _ S4).1
  have d1 := (KK.out _ S4).2.1
  have d2 := (KK.out _ S4).2.2
  have HB1 := Lib.hid hbase
  have HB2 := Lib.hid hbase2
  obtain ⟨RS, hRS⟩ : ∃ gx_, (Rs.set i (heapR h (H.del v (keyS s hs)))) = gx_ := ⟨_, rfl⟩
  rw [hRS] at HB2 ⊢
  obtain ⟨cp, hcp⟩ : ∃ gx_, (H.has v (keyS s hs)) = gx_ := ⟨_, rfl⟩
  rw [hcp] at KD ⊢
  simp only [V.val]
  replace S4 := Lib.hid S4
  clear S S1 hbase hbase2 hi ALL hRS hcp ho
  go_enter Try.func37, Try.ntmps37
  go_upto_region 1 with fail
  try rw [hb]
  go_cut [18] (fun s18 wx => s18 = .bool (!cp) ∧ Sep w base2 wx)
  case first =>
    have T0 := S4.out
    clear S4
    go_region_held3 (fun W => W.cell? ⟨b, 0, none⟩ = some (.int .i64 v.kind) ∧ W.cell? ⟨b, 1, none⟩ = some (.int .i64 v.n) ∧ W.cell? ⟨b, 2, none⟩ = some (.string v.s))
      (first | exact KK.out _ (by assumption) | exact KK.out _ (Sep.drew (by assumption)) | exact KK2.out _ (by assumption))
      (first
        | (go_at_call 51; refine (KO.out _ (by first | assumption | exact Sep.drew (by assumption))).mono ?_; rintro e w6 ⟨rfl, T1⟩)
        | (go_at_call 48; refine (KY.out _ (by first | assumption | exact Sep.drew (by assumption))).mono ?_; rintro e w6 ⟨rfl, T1⟩)
        | (go_at_call 63; refine (KD.out _ (by assumption)).mono ?_; rintro e w6 ⟨rfl, T1⟩))
    all_goals (go_wp2_with fail; go_meet; exact ⟨rfl, by assumption⟩)
  case rest =>
    obtain ⟨rfl, S9⟩ := hcut
    have H9 : Hid (∀ W, Sep w base2 W → W.heap[b + 1]? = some (.cells #[.string ⟨#[]⟩, .int .i64 0, .int .i64 0, .string ⟨#[]⟩, .bool false] 45) ∧ Sep w (anyR (b + 1) :: valB b v :: RS) W) := Lib.hid fun W T => by
      rw [HB2.out] at T; exact ⟨T.box 0 rfl, T.toAny 0 rfl⟩
    have FR : Hid (∀ W, Sep w (anyR (b + 1) :: valB b v :: RS) W → Sep w RS W) := Lib.hid fun W T => T.tail.tail
    clear S4 d0 d1 d2
    cases cp with
    | true =>
      obtain ⟨e2, S10⟩ := H9.out _ S9
      replace S10 := Lib.hid S10
      have y0 := cellAt e2 0 (v := .string ⟨#[]⟩) rfl
      have y1 := cellAt e2 1 (v := .int .i64 0) rfl
      have y2 := cellAt e2 2 (v := .int .i64 0) rfl
      have y3 := cellAt e2 3 (v := .string ⟨#[]⟩) rfl
      have y4 := cellAt e2 4 (v := .bool false) rfl
      have y5 := frozenAt e2 0
      have y6 := frozenAt e2 1
      have y7 := frozenAt e2 2
      have y8 := frozenAt e2 3
      have y9 := frozenAt e2 4
      clear S9 e2
      go_wp2
      refine bodyPost_ret (v := excZ) (by simp [results, Try.results37, go_sem, y0, y1, y2, y3, y4]) rfl ⟨rfl, FR.out _ ?_⟩
      iterate 5 refine Sep.poke (q := b + 1) ?_ 0 rfl _ _
      exact S10.out
    | false =>
      have C2 := Lib.hid (missing_ok S9 s)
      clear S9
      go_wp2_with fail
      refine C2.out.mono ?_
      rintro e w2 ⟨rfl, S9⟩
      clear C2
      obtain ⟨e2, S10⟩ := H9.out _ S9
      replace S10 := Lib.hid S10
      have y0 := cellAt e2 0 (v := .string ⟨#[]⟩) rfl
      have y1 := cellAt e2 1 (v := .int .i64 0) rfl
      have y2 := cellAt e2 2 (v := .int .i64 0) rfl
      have y3 := cellAt e2 3 (v := .string ⟨#[]⟩) rfl
      have y4 := cellAt e2 4 (v := .bool false) rfl
      have y5 := frozenAt e2 0
      have y6 := frozenAt e2 1
      have y7 := frozenAt e2 2
      have y8 := frozenAt e2 3
      have y9 := frozenAt e2 4
      clear S9 e2
      go_wp2
      refine bodyPost_ret (v := excA s) (by simp [results, Try.results37, go_sem, y0, y1, y2, y3, y4]) rfl ⟨rfl, FR.out _ ?_⟩
      iterate 5 refine Sep.poke (q := b + 1) ?_ 0 rfl _ _
      exact S10.out
end
end Go.Proofs.Ytkocenlglodklaa
/- Objects: Del, where the space is not open. -/
namespace Go.Proofs.Ytkocenlglodklaa
set_option linter.unusedSimpArgs false
open Go.RowKit
set_option linter.unusedVariables false
section
variable {w W : World} {Rs : List Res} {h : Nat} {H : HeapM}
set_option maxRecDepth 100000 in
set_option maxHeartbeats 1600000 in
theorem del_no (S : Sep w Rs W) (i : Nat) (hi : Rs[i]? = some (heapR h H)) (v : V) (s : ByteArray) (ho : H.opens v = false) :
    Calls Try.prog 37 #[.pointer (some ⟨h, 0, none⟩), v.val, .string s] W fun e W' => e = .returned (excA s) ∧ Sep w Rs W' := by
  obtain ⟨b, hb⟩ : ∃ gx_, (W.heap.size) = gx_ := ⟨_, rfl⟩
  have S1 := (S.alloc (.cells #[.int .i64 v.kind, .int .i64 v.n, .string v.s] 33)).alloc (.cells #[.string ⟨#[]⟩, .int .i64 0, .int .i64 0, .string ⟨#[]⟩, .bool false] 45)
  simp only [World.size_alloc, hb] at S1
  obtain ⟨base, hbase⟩ : ∃ base, base = excB (b + 1) ⟨#[]⟩ :: valB b v :: Rs := ⟨_, rfl⟩
  have KO : Hid (∀ W, Sep w base W → Calls Try.prog 51 #[.pointer (some ⟨h, 0, none⟩), .agg #[.int .i64 v.kind, .int .i64 v.n, .string v.s]] W fun e W' => e = .returned (.bool false) ∧ Sep w base W') := Lib.hid fun W T => by
    rw [hbase] at T ⊢
    have := open_ok T (i + 2) (by simpa using hi) v
    rw [ho] at this
    exact this
  have ALL : Hid (∀ W E Y, Sep w (E :: valB b v :: Y) W → W.cell? ⟨b, 0, none⟩ = some (.int .i64 v.kind) ∧ W.cell? ⟨b, 1, none⟩ = some (.int .i64 v.n) ∧ W.cell? ⟨b, 2, none⟩ = some (.string v.s)) := Lib.hid fun W X Y T => by
    have g2 := T.box (b := b) (o := .cells #[.int .i64 v.kind, .int .i64 v.n, .string v.s] 33) 1 rfl
    exact ⟨cellAt g2 0 rfl, cellAt g2 1 rfl, cellAt g2 2 rfl⟩
  have KK : Hid (∀ W, Sep w base W → _) := Lib.hid fun W T => ALL.out W _ _ (by rw [hbase] at T; exact T)
  rw [← hbase] at S1
  have S4 := S1
  have d0 := (KK.out _ S4).1
  have d1 := (KK.out _ S4).2.1
  have d2 := (KK.out _ S4).2.2
  have HB1 := Lib.hid hbase
  simp only [V.val]
  replace S4 := Lib.hid S4
  clear S S1 hbase hi ALL ho
  go_enter Try.func37, Try.ntmps37
  go_upto_region 1 with fail
  try rw [hb]
  go_cut [18] (fun s18 wx => s18 = .bool true ∧ Sep w base wx)
  case first =>
    have T0 := S4.out.drew
    clear S4
    refine wp_region_held_drew (S := (fun W => W.cell? ⟨b, 0, none⟩ = some (.int .i64 v.kind) ∧ W.cell? ⟨b, 1, none⟩ = some (.int .i64 v.n) ∧ W.cell? ⟨b, 2, none⟩ = some (.string v.s))) (by kernel_rfl) ?_ (fun hH => ?_)
    · exact KK.out _ T0
    refine wpAnyH_take (i := 0) (v := _) (by simp only [List.getElem?_toArray, List.getElem?_cons_succ, List.getElem?_cons_zero]; rfl) (by kernel_rfl) (by kernel_rfl) (by kernel_rfl) (by exact fun _ _ _ h => h) (.inl ⟨by rfl, by (intro w hSw; try obtain ⟨s0, s1, s2⟩ := hSw); (go_simp; try rfl)⟩) hH ?_
    simp only [Act.put, List.setIfInBounds_toArray, List.set_cons_zero, List.set_cons_succ]
    refine wpAnyH_take (i := 1) (v := _) (by simp only [List.getElem?_toArray, List.getElem?_cons_succ, List.getElem?_cons_zero]; rfl) (by kernel_rfl) (by kernel_rfl) (by kernel_rfl) (by exact fun _ _ _ h => h) (.inl ⟨by rfl, by (intro w hSw; try obtain ⟨s0, s1, s2⟩ := hSw); (go_simp; try rfl)⟩) hH ?_
    simp only [Act.put, List.setIfInBounds_toArray, List.set_cons_zero, List.set_cons_succ]
    refine wpAnyH_ready (rs := [2]) (by kernel_rfl) (by simp) ?_
    refine AllReadyH.cons (by simp only [List.getElem?_toArray, List.getElem?_cons_succ, List.getElem?_cons_zero]; rfl) (fun K hK => ?_) AllReadyH.nil
    go_simp
    go_wp2_with (go_at_call 51; refine (KO.out _ T0).mono ?_; rintro e w6 ⟨rfl, T1⟩)
    clear hH
    refine hK.out _ _ ?_ (fun hH => ?_)
    · exact KK.out _ T1
    clear hK K
    refine wpAnyH_take (i := 3) (v := _) (by simp only [List.getElem?_toArray, List.getElem?_cons_succ, List.getElem?_cons_zero]; rfl) (by kernel_rfl) (by kernel_rfl) (by kernel_rfl) (by exact fun _ _ _ h => h) (.inl ⟨by rfl, by (intro w hSw; try obtain ⟨s0, s1, s2⟩ := hSw); (go_simp; try rfl)⟩) hH ?_
    simp only [Act.put, List.setIfInBounds_toArray, List.set_cons_zero, List.set_cons_succ]
    refine wpAnyH_take (i := 4) (v := _) (by simp only [List.getElem?_toArray, List.getElem?_cons_succ, List.getElem?_cons_zero]; rfl) (by kernel_rfl) (by kernel_rfl) (by kernel_rfl) (by exact fun _ _ _ h => h) (.inl ⟨by rfl, by (intro w hSw; try obtain ⟨s0, s1, s2⟩ := hSw); (go_simp; try rfl)⟩) hH ?_
    simp only [Act.put, List.setIfInBounds_toArray, List.set_cons_zero, List.set_cons_succ]
    refine wpAnyH_take (i := 5) (v := undef) (by simp only [List.getElem?_toArray, List.getElem?_cons_succ, List.getElem?_cons_zero]; rfl) (by kernel_rfl) (by kernel_rfl) (by kernel_rfl) (by exact fun _ _ _ h => h) (.inr ⟨by rfl, rfl⟩) hH ?_
    simp only [Act.put, List.setIfInBounds_toArray, List.set_cons_zero, List.set_cons_succ]
    refine wpAnyH_take (i := 6) (v := undef) (by simp only [List.getElem?_toArray, List.getElem?_cons_succ, List.getElem?_cons_zero]; rfl) (by kernel_rfl) (by kernel_rfl) (by kernel_rfl) (by exact fun _ _ _ h => h) (.inr ⟨by rfl, rfl⟩) hH ?_
    simp only [Act.put, List.setIfInBounds_toArray, List.set_cons_zero, List.set_cons_succ]
    refine wpAnyH_take (i := 7) (v := undef) (by simp only [List.getElem?_toArray, List.getElem?_cons_succ, List.getElem?_cons_zero]; rfl) (by kernel_rfl) (by kernel_rfl) (by kernel_rfl) (by exact fun _ _ _ h => h) (.inr ⟨by rfl, rfl⟩) hH ?_
    simp only [Act.put, List.setIfInBounds_toArray, List.set_cons_zero, List.set_cons_succ]
    refine wpAnyH_take (i := 8) (v := undef) (by simp only [List.getElem?_toArray, List.getElem?_cons_succ, List.getElem?_cons_zero]; rfl) (by kernel_rfl) (by kernel_rfl) (by kernel_rfl) (by exact fun _ _ _ h => h) (.inr ⟨by rfl, rfl⟩) hH ?_
    simp only [Act.put, List.setIfInBounds_toArray, List.set_cons_zero, List.set_cons_succ]
    refine wpAnyH_take (i := 9) (v := undef) (by simp only [List.getElem?_toArray, List.getElem?_cons_succ, List.getElem?_cons_zero]; rfl) (by kernel_rfl) (by kernel_rfl) (by kernel_rfl) (by exact fun _ _ _ h => h) (.inr ⟨by rfl, rfl⟩) hH ?_
    simp only [Act.put, List.setIfInBounds_toArray, List.set_cons_zero, List.set_cons_succ]
    refine wpAnyH_take (i := 10) (v := undef) (by simp only [List.getElem?_toArray, List.getElem?_cons_succ, List.getElem?_cons_zero]; rfl) (by kernel_rfl) (by kernel_rfl) (by kernel_rfl) (by exact fun _ _ _ h => h) (.inr ⟨by rfl, rfl⟩) hH ?_
    simp only [Act.put, List.setIfInBounds_toArray, List.set_cons_zero, List.set_cons_succ]
    refine wpAnyH_take (i := 11) (v := _) (by simp only [List.getElem?_toArray, List.getElem?_cons_succ, List.getElem?_cons_zero]; rfl) (by kernel_rfl) (by kernel_rfl) (by kernel_rfl) (by exact fun _ _ _ h => h) (.inl ⟨by rfl, by (intro w hSw; try obtain ⟨s0, s1, s2⟩ := hSw); (go_simp; try rfl)⟩) hH ?_
    simp only [Act.put, List.setIfInBounds_toArray, List.set_cons_zero, List.set_cons_succ]
    refine wpAnyH_done (by kernel_rfl) ?_ _
    go_wp2_with fail
    go_meet
    exact ⟨rfl, T1⟩
  case rest =>
    obtain ⟨rfl, S9⟩ := hcut
    have H9 : Hid (∀ W, Sep w base W → W.heap[b + 1]? = some (.cells #[.string ⟨#[]⟩, .int .i64 0, .int .i64 0, .string ⟨#[]⟩, .bool false] 45) ∧ Sep w (anyR (b + 1) :: valB b v ::  Rs) W) := Lib.hid fun W T => by
      rw [HB1.out] at T; exact ⟨T.box 0 rfl, T.toAny 0 rfl⟩
    have FR : Hid (∀ W, Sep w (anyR (b + 1) :: valB b v ::  Rs) W → Sep w Rs W) := Lib.hid fun W T => T.tail.tail
    clear S4 d0 d1 d2
    have C2 := Lib.hid (missing_ok S9 s)
    clear S9
    go_wp2_with fail
    refine C2.out.mono ?_
    rintro e w2 ⟨rfl, S9⟩
    clear C2
    obtain ⟨e2, S10⟩ := H9.out _ S9
    replace S10 := Lib.hid S10
    have y0 := cellAt e2 0 (v := .string ⟨#[]⟩) rfl
    have y1 := cellAt e2 1 (v := .int .i64 0) rfl
    have y2 := cellAt e2 2 (v := .int .i64 0) rfl
    have y3 := cellAt e2 3 (v := .string ⟨#[]⟩) rfl
    have y4 := cellAt e2 4 (v := .bool false) rfl
    have y5 := frozenAt e2 0
    have y6 := frozenAt e2 1
    have y7 := frozenAt e2 2
    have y8 := frozenAt e2 3
    have y9 := frozenAt e2 4
    clear S9 e2
    go_wp2
    refine bodyPost_ret (v := excA s) (by simp [results, Try.results37, go_sem, y0, y1, y2, y3, y4]) rfl ⟨rfl, FR.out _ ?_⟩
    iterate 5 refine Sep.poke (q := b + 1) ?_ 0 rfl _ _
    exact S10.out
end
end Go.Proofs.Ytkocenlglodklaa
