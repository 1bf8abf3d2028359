/- ch 16: Repr, Str. -/
import Derived.Test.YtellmfimmghidaaGreatTellE
namespace Go.Proofs.YtellmfimmghidaaGreat
set_option linter.unusedSimpArgs false
open Go.RowKit
set_option linter.unusedVariables false
section
variable {w W : World} {Rs : List Res} {h : Nat} {H : HeapM} {P : V → Prop}
/-- What plain must tell of. -/
def PlainAt (w : World) (h : Nat) (H : HeapM) (P : V → Prop) : Prop := ∀ t v, P v → H.wholeB v = false → (H.plainL v).length ≤ 1000000 ∧ ∀ {Rs : List Res} {W : World} {T : TelM}, Sep w (tellR t h T :: Rs) W → (∃ i : Nat, Rs[i]? = some (heapR h H)) → Calls Tryz.prog 101 #[.pointer (some ⟨t, 0, none⟩), .agg #[.int .i64 v.kind, .int .i64 v.n, .string v.s]] W fun e W' => e = .returned (.string ⟨(H.plainL v).toArray⟩) ∧ Sep w (tellR t h T :: Rs) W'
theorem HeapM.plainL_len (H : HeapM) (v : V) (hk : v.kind = 0 ∨ v.kind = 1 ∨ v.kind = 2 ∨ v.kind = 3) (hs : v.s.size ≤ 100000) : (H.plainL v).length ≤ 1000000 := by
  rcases hk with e | e | e | e
  · unfold HeapM.plainL; rw [if_pos e]; decide
  · unfold HeapM.plainL; rw [if_neg (by omega), if_pos e]; split <;> decide
  · unfold HeapM.plainL
    rw [if_neg (by omega), if_neg (by omega), if_pos e]
    obtain ⟨h1, h2⟩ := okI_range v.hn
    have := digitsU_len 18 v.n.natAbs (by omega)
    unfold textN
    rw [List.length_append]
    split <;> simp <;> omega
  · unfold HeapM.plainL
    rw [if_neg (by omega), if_neg (by omega), if_neg (by omega), if_pos e]
    have := quote_len v.s.data.toList
    have h3 : v.s.data.toList.length = v.s.size := rfl
    unfold quoteL
    simp only [List.length_cons, List.length_append, List.length_nil]
    omega
/-- None, bools, ints and short strs are told by themselves. -/
theorem plainAt (hP : ∀ v, P v → H.wholeB v = false → (v.kind = 0 ∨ v.kind = 1 ∨ v.kind = 2 ∨ v.kind = 3) ∧ v.s.size ≤ 100000) : PlainAt w h H P := fun t v hv hw =>
  ⟨H.plainL_len v (hP v hv hw).1 (hP v hv hw).2, fun S _ => plain_ok S v (hP v hv hw).1 (hP v hv hw).2⟩
theorem tellMade (S : Sep w Rs W) : Sep w (tellR W.heap.size h ⟨[], .no⟩ :: Rs) (W.alloc (telB h (.pointer none) (.slice none 0 0) ⟨#[]⟩)) :=
  S.add (belowAlloc W _) (G := [W.heap.size]) ⟨.pointer none, .slice none 0 0, .inl rfl, heapAllocNew W _, World.ownsRow_nil _ _ _ _, rfl⟩ (by simp) (by simp)
theorem telString {t : Nat} {T : TelM} (S : Sep w (tellR t h T :: Rs) W) : Calls Tryz.prog 58 #[.pointer (some ⟨t, 1, none⟩)] W fun e W' => e = .returned (.string ⟨T.out.toArray⟩) ∧ Sep w Rs W' := by
  obtain ⟨p, vq, q1, q2, q3, -⟩ := S.telB 0 rfl
  exact (tb_string t h p vq T.fell.name T.out q2 q3).mono fun e W' ⟨e1, e2⟩ => ⟨e1, S.telGone 0 rfl q2 e2⟩
set_option maxRecDepth 100000 in
set_option maxHeartbeats 4000000 in
theorem repr_ok {N : Nat} (G : H.Good N) (hN : N ≤ 4000000) (PL : PlainAt w h H P) (PI : ∀ v x, P v → x ∈ H.items v → P x) (PK : ∀ v p, P v → p ∈ H.pairs v → P p.1 ∧ P ((H.get v p.1).getD V.zero))
    (S : Sep w Rs W) (i : Nat) (hi : Rs[i]? = some (heapR h H)) (v : V) (hv : P v) :
    Calls Tryz.prog 25 #[.pointer (some ⟨h, 0, none⟩), .agg #[.int .i64 v.kind, .int .i64 v.n, .string v.s]] W fun e W' => e = .returned (reprV (H.reprM v)) ∧ Sep w Rs W' := by
  obtain ⟨b, hb⟩ : ∃ gx_, (W.heap.size) = gx_ := ⟨_, rfl⟩
  have S1 := ((S.alloc (.cells #[.int .i64 v.kind, .int .i64 v.n, .string v.s] 29)).alloc (.cells #[.string ⟨#[]⟩, .int .i64 0, .int .i64 0, .string ⟨#[]⟩, .bool false] 38))
  have S2 := tellMade (h := h) S1
  simp only [World.size_alloc, hb] at S2
  have K := Lib.hid (tell_ok G hN (PL (b + 1 + 1)) PI PK 30 S2 (i + 2) (by simpa using hi) (by simp) v hv 0 (by simp) (by simp))
  obtain ⟨d00, d01, d02⟩ := wpVal v (S2.box (b := b) 2 rfl)
  obtain ⟨T, hT⟩ : ∃ T, H.reprM v = T := ⟨_, rfl⟩
  rw [show H.tellF 30 v ⟨[], .no⟩ = T from hT] at K
  have HT := Lib.hid hT
  clear S S1 S2 hi hv hT PL PI PK
  go_enter Tryz.func25, Tryz.ntmps25
  go_wp2_with fail
  try simp only [World.size_alloc, hb]
  refine K.out.mono ?_
  rintro e w1 ⟨rfl, S⟩
  clear K hb d00 d01 d02
  obtain ⟨p, vq, q1, q2, q3, -⟩ := S.telB 0 rfl
  cases hfl : T.fell with
  | no =>
    have HR : Hid (reprV T = .tuple #[.string ⟨T.out.toArray⟩, excZ]) := Lib.hid (by unfold reprV; rw [hfl])
    rw [hfl] at q2
    have c2 := cellAt q2 3 (v := .string ⟨#[]⟩) rfl
    have M := Lib.hid (telString S)
    clear S q1 q2 q3 hfl
    go_wp2_with fail
    refine M.out.mono ?_
    rintro e w2 ⟨rfl, S⟩
    clear M c2
    replace S : Sep w (boxR (b + 1) (.cells #[.string ⟨#[]⟩, .int .i64 0, .int .i64 0, .string ⟨#[]⟩, .bool false] 38) :: boxR b (.cells #[.int .i64 v.kind, .int .i64 v.n, .string v.s] 29) :: Rs) w2 := S
    have hz := S.box (b := b + 1) 0 rfl
    have z0 := cellAt hz 0 (v := .string ⟨#[]⟩) rfl
    have z1 := cellAt hz 1 (v := .int .i64 0) rfl
    have z2 := cellAt hz 2 (v := .int .i64 0) rfl
    have z3 := cellAt hz 3 (v := .string ⟨#[]⟩) rfl
    have z4 := cellAt hz 4 (v := .bool false) rfl
    have z5 := frozenAt hz 0
    have z6 := frozenAt hz 1
    have z7 := frozenAt hz 2
    have z8 := frozenAt hz 3
    have z9 := frozenAt hz 4
    have S9 := Lib.hid (S.toAny (q := b + 1) 0 rfl)
    clear S hz
    go_wp2
    have FR : Hid (∀ W', Sep w (anyR (b + 1) :: boxR b (.cells #[.int .i64 v.kind, .int .i64 v.n, .string v.s] 29) :: Rs) W' → Sep w Rs W') := Lib.hid fun W' T' => T'.tail.tail
    refine bodyPost_ret (v := .tuple #[.string ⟨T.out.toArray⟩, excZ]) (by simp [results, Tryz.results25, go_sem, z0, z1, z2, z3, z4]) rfl ⟨by rw [HT.out, HR.out], FR.out _ ?_⟩
    iterate 5 refine Sep.poke (q := b + 1) ?_ 0 rfl _ _
    exact S9.out
  | memory =>
    have HR : Hid (reprV T = .tuple #[.string ⟨#[]⟩, excN memoryError]) := Lib.hid (by unfold reprV; rw [hfl]; rfl)
    rw [hfl] at q2
    have c2 := cellAt q2 3 (v := .string memoryError) rfl
    have M : Hid (Calls Tryz.prog 57 #[.string memoryError] w1 fun e W' => e = .returned (excN memoryError) ∧ Sep w (tellR (b + 1 + 1) h T :: boxR (b + 1) (.cells #[.string ⟨#[]⟩, .int .i64 0, .int .i64 0, .string ⟨#[]⟩, .bool false] 38) :: boxR b (.cells #[.int .i64 v.kind, .int .i64 v.n, .string v.s] 29) :: Rs) W') := Lib.hid ((raise_ok w1 memoryError).mono fun e W' hh => ⟨hh.1, S.later hh.2⟩)
    clear S q1 q2 q3 hfl
    go_wp2_with fail
    refine M.out.mono ?_
    rintro e w2 ⟨rfl, S⟩
    clear M c2
    have hz := S.box (b := b + 1) 1 rfl
    have z0 := cellAt hz 0 (v := .string ⟨#[]⟩) rfl
    have z1 := cellAt hz 1 (v := .int .i64 0) rfl
    have z2 := cellAt hz 2 (v := .int .i64 0) rfl
    have z3 := cellAt hz 3 (v := .string ⟨#[]⟩) rfl
    have z4 := cellAt hz 4 (v := .bool false) rfl
    have z5 := frozenAt hz 0
    have z6 := frozenAt hz 1
    have z7 := frozenAt hz 2
    have z8 := frozenAt hz 3
    have z9 := frozenAt hz 4
    have S9 := Lib.hid (S.toAny (q := b + 1) 1 rfl)
    clear S hz
    go_wp2
    have FR : Hid (∀ W', Sep w (tellR (b + 1 + 1) h T :: anyR (b + 1) :: boxR b (.cells #[.int .i64 v.kind, .int .i64 v.n, .string v.s] 29) :: Rs) W' → Sep w Rs W') := Lib.hid fun W' T' => T'.tail.tail.tail
    refine bodyPost_ret (v := .tuple #[.string ⟨#[]⟩, excN memoryError]) (by simp [results, Tryz.results25, go_sem, z0, z1, z2, z3, z4]) rfl ⟨by rw [HT.out, HR.out], FR.out _ ?_⟩
    iterate 5 refine Sep.poke (q := b + 1) ?_ 1 rfl _ _
    exact S9.out
  | deep =>
    have HR : Hid (reprV T = .tuple #[.string ⟨#[]⟩, excN recursionError]) := Lib.hid (by unfold reprV; rw [hfl]; rfl)
    rw [hfl] at q2
    have c2 := cellAt q2 3 (v := .string recursionError) rfl
    have M : Hid (Calls Tryz.prog 57 #[.string recursionError] w1 fun e W' => e = .returned (excN recursionError) ∧ Sep w (tellR (b + 1 + 1) h T :: boxR (b + 1) (.cells #[.string ⟨#[]⟩, .int .i64 0, .int .i64 0, .string ⟨#[]⟩, .bool false] 38) :: boxR b (.cells #[.int .i64 v.kind, .int .i64 v.n, .string v.s] 29) :: Rs) W') := Lib.hid ((raise_ok w1 recursionError).mono fun e W' hh => ⟨hh.1, S.later hh.2⟩)
    clear S q1 q2 q3 hfl
    go_wp2_with fail
    refine M.out.mono ?_
    rintro e w2 ⟨rfl, S⟩
    clear M c2
    have hz := S.box (b := b + 1) 1 rfl
    have z0 := cellAt hz 0 (v := .string ⟨#[]⟩) rfl
    have z1 := cellAt hz 1 (v := .int .i64 0) rfl
    have z2 := cellAt hz 2 (v := .int .i64 0) rfl
    have z3 := cellAt hz 3 (v := .string ⟨#[]⟩) rfl
    have z4 := cellAt hz 4 (v := .bool false) rfl
    have z5 := frozenAt hz 0
    have z6 := frozenAt hz 1
    have z7 := frozenAt hz 2
    have z8 := frozenAt hz 3
    have z9 := frozenAt hz 4
    have S9 := Lib.hid (S.toAny (q := b + 1) 1 rfl)
    clear S hz
    go_wp2
    have FR : Hid (∀ W', Sep w (tellR (b + 1 + 1) h T :: anyR (b + 1) :: boxR b (.cells #[.int .i64 v.kind, .int .i64 v.n, .string v.s] 29) :: Rs) W' → Sep w Rs W') := Lib.hid fun W' T' => T'.tail.tail.tail
    refine bodyPost_ret (v := .tuple #[.string ⟨#[]⟩, excN recursionError]) (by simp [results, Tryz.results25, go_sem, z0, z1, z2, z3, z4]) rfl ⟨by rw [HT.out, HR.out], FR.out _ ?_⟩
    iterate 5 refine Sep.poke (q := b + 1) ?_ 1 rfl _ _
    exact S9.out
set_option maxRecDepth 100000 in
set_option maxHeartbeats 4000000 in
/-- A str by itself. -/
theorem str_ok (S : Sep w Rs W) (s : ByteArray) (n : Int) :
    Calls Tryz.prog 36 #[.pointer (some ⟨h, 0, none⟩), .agg #[.int .i64 3, .int .i64 n, .string s]] W fun e W' => e = .returned (.tuple #[.string s, excZ]) ∧ Sep w Rs W' := by
  obtain ⟨b, hb⟩ : ∃ gx_, (W.heap.size) = gx_ := ⟨_, rfl⟩
  have S1 := ((S.alloc (.cells #[.int .i64 3, .int .i64 n, .string s] 29)).alloc (.cells #[.string ⟨#[]⟩, .int .i64 0, .int .i64 0, .string ⟨#[]⟩, .bool false] 38))
  simp only [World.size_alloc, hb] at S1
  have d00 := cellAt (S1.box (b := b) 1 rfl) 0 (v := .int .i64 3) rfl
  have d01 := cellAt (S1.box (b := b) 1 rfl) 1 (v := .int .i64 n) rfl
  have d02 := cellAt (S1.box (b := b) 1 rfl) 2 (v := .string s) rfl
  have HS := Lib.hid S1.tail.tail
  have hz := S1.box (b := b + 1) 0 rfl
  have z0 := cellAt hz 0 (v := .string ⟨#[]⟩) rfl
  have z1 := cellAt hz 1 (v := .int .i64 0) rfl
  have z2 := cellAt hz 2 (v := .int .i64 0) rfl
  have z3 := cellAt hz 3 (v := .string ⟨#[]⟩) rfl
  have z4 := cellAt hz 4 (v := .bool false) rfl
  clear S S1 hz
  go_enter Tryz.func36, Tryz.ntmps36
  go_wp2
  try simp only [World.size_alloc, hb]
  exact bodyPost_ret (v := .tuple #[.string s, excZ]) (by simp [results, Tryz.results36, go_sem, z0, z1, z2, z3, z4]) rfl ⟨rfl, HS.out⟩
end
end Go.Proofs.YtellmfimmghidaaGreat
