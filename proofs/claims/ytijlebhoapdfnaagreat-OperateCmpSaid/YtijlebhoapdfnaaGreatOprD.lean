/- ch 16: Same; the same one. -/
import Derived.Test.YtijlebhoapdfnaaGreatOprC
set_option maxRecDepth 100000
set_option maxHeartbeats 2000000
namespace Go.Proofs.YtijlebhoapdfnaaGreat
set_option linter.unusedSimpArgs false
open Go.RowKit
set_option linter.unusedVariables false
section
variable {w W : World} {Rs : List Res} {h : Nat} {H : HeapM}
theorem sameOp_ok {N : Nat} (G : H.Good N) (hN : N ≤ 4000000) (i : Nat) (S : Sep w Rs W) (hi : Rs[i]? = some (heapR h H)) (x y : V) :
  Calls Tryz.prog 27 #[.pointer (some ⟨h, 0, none⟩), .agg #[.int .i64 x.kind, .int .i64 x.n, .string x.s], .agg #[.int .i64 y.kind, .int .i64 y.n, .string y.s]] W fun e W' => e = .returned (sameV (H.sameF 30 x y)) ∧ Sep w Rs W' := by
 obtain ⟨b, hb⟩ : ∃ gx_, (W.heap.size) = gx_ := ⟨_, rfl⟩
 have S1 := ((S.alloc (.cells #[.int .i64 x.kind, .int .i64 x.n, .string x.s] 24)).alloc (.cells #[.int .i64 y.kind, .int .i64 y.n, .string y.s] 24)).alloc (.cells #[.string ⟨#[]⟩, .int .i64 0, .int .i64 0, .string ⟨#[]⟩, .bool false] 33)
 simp only [World.size_alloc, hb] at S1
 have K := Lib.hid (same_ok G hN 30 S1 (i + 3) (by simpa using hi) x y 0 (by simp) (by simp))
 obtain ⟨d00, d01, d02⟩ := wpVal x (S1.box (b := b) 2 rfl)
 obtain ⟨d10, d11, d12⟩ := wpVal y (S1.box (b := b + 1) 1 rfl)
 obtain ⟨r, hr⟩ : ∃ r, H.sameF 30 x y = r := ⟨_, rfl⟩
 rw [hr] at K ⊢
 have FR : Hid (∀ W', Sep w (anyR (b + 1 + 1) :: boxV (b + 1) y :: boxV b x :: Rs) W' → Sep w Rs W') := Lib.hid fun W' T => T.tail.tail.tail
 clear S S1 hi hr
 go_enter Tryz.func27, Tryz.ntmps27
 go_wp2_with fail
 try simp only [World.size_alloc, hb]
 refine K.out.mono ?_
 rintro e w1 ⟨rfl, S⟩
 clear K hb d00 d01 d02 d10 d11 d12
 have hz := S.box (b := b + 1 + 1) 0 rfl
 have z0 := cellAt hz 0 (v := .string ⟨#[]⟩) rfl
 have z1 := cellAt hz 1 (v := .int .i64 0) rfl
 have z2 := cellAt hz 2 (v := .int .i64 0) rfl
 have z3 := cellAt hz 3 (v := .string ⟨#[]⟩) rfl
 have z4 := cellAt hz 4 (v := .bool false) rfl
 have z5 := frozenAt hz 0
 have z6 := frozenAt hz 1
 have z7 := frozenAt hz 2
 have z8 := frozenAt hz 3
 have z9 := frozenAt hz 4
 have S9 := Lib.hid (S.toAny (q := b + 1 + 1) 0 rfl)
 clear S hz
 cases r with
 | none =>
  simp only [sameV]
  go_wp2
  refine bodyPost_ret (v := .tuple #[.bool false, excN recursionError]) ?_ ?_ ?_
  ·
   simp [results, Tryz.results27, go_sem, z0, z1, z2, z3, z4]
  ·
   rfl
  refine ⟨rfl, FR.out _ ?_⟩
  iterate 5 refine Sep.poke (q := b + 1 + 1) ?_ 0 rfl _ _
  exact S9.out
 | some c =>
  simp only [sameV, Option.getD_some]
  go_wp2
  refine bodyPost_ret (v := .tuple #[.bool c, excZ]) ?_ ?_ ?_
  ·
   simp [results, Tryz.results27, go_sem, z0, z1, z2, z3, z4]
  ·
   rfl
  refine ⟨rfl, FR.out _ ?_⟩
  iterate 5 refine Sep.poke (q := b + 1 + 1) ?_ 0 rfl _ _
  exact S9.out
theorem isOp_ok (i : Nat) (S : Sep w Rs W) (hi : Rs[i]? = some (heapR h H)) (x y : V) :
  Calls Tryz.prog 113 #[.pointer (some ⟨h, 0, none⟩), .agg #[.int .i64 x.kind, .int .i64 x.n, .string x.s], .agg #[.int .i64 y.kind, .int .i64 y.n, .string y.s]] W fun e W' => e = .returned (.tuple #[.bool (H.oneB x y), excZ]) ∧ Sep w Rs W' := by
 obtain ⟨b, hb⟩ : ∃ gx_, (W.heap.size) = gx_ := ⟨_, rfl⟩
 have S1 := ((S.alloc (.cells #[.int .i64 x.kind, .int .i64 x.n, .string x.s] 24)).alloc (.cells #[.int .i64 y.kind, .int .i64 y.n, .string y.s] 24)).alloc (.cells #[.string ⟨#[]⟩, .int .i64 0, .int .i64 0, .string ⟨#[]⟩, .bool false] 33)
 simp only [World.size_alloc, hb] at S1
 obtain ⟨r, hr⟩ : ∃ r, H.oneB x y = r := ⟨_, rfl⟩
 have K := Lib.hid (one_ok S1 (i + 3) (by simpa using hi) x y r hr)
 obtain ⟨d00, d01, d02⟩ := wpVal x (S1.box (b := b) 2 rfl)
 obtain ⟨d10, d11, d12⟩ := wpVal y (S1.box (b := b + 1) 1 rfl)
 rw [hr]
 have FR : Hid (∀ W', Sep w (anyR (b + 1 + 1) :: boxV (b + 1) y :: boxV b x :: Rs) W' → Sep w Rs W') := Lib.hid fun W' T => T.tail.tail.tail
 clear S S1 hi hr
 go_enter Tryz.func113, Tryz.ntmps113
 go_wp2_with fail
 try simp only [World.size_alloc, hb]
 refine K.out.mono ?_
 rintro e w1 ⟨rfl, S⟩
 clear K hb d00 d01 d02 d10 d11 d12
 have hz := S.box (b := b + 1 + 1) 0 rfl
 have z0 := cellAt hz 0 (v := .string ⟨#[]⟩) rfl
 have z1 := cellAt hz 1 (v := .int .i64 0) rfl
 have z2 := cellAt hz 2 (v := .int .i64 0) rfl
 have z3 := cellAt hz 3 (v := .string ⟨#[]⟩) rfl
 have z4 := cellAt hz 4 (v := .bool false) rfl
 have z5 := frozenAt hz 0
 have z6 := frozenAt hz 1
 have z7 := frozenAt hz 2
 have z8 := frozenAt hz 3
 have z9 := frozenAt hz 4
 have S9 := Lib.hid (S.toAny (q := b + 1 + 1) 0 rfl)
 clear S hz
 go_wp2
 refine bodyPost_ret (v := .tuple #[.bool r, excZ]) ?_ ?_ ?_
 ·
  simp [results, Tryz.results113, go_sem, z0, z1, z2, z3, z4]
 ·
  rfl
 refine ⟨rfl, FR.out _ ?_⟩
 iterate 5 refine Sep.poke (q := b + 1 + 1) ?_ 0 rfl _ _
 exact S9.out
theorem wrong_ok (S : Sep w Rs W) : Calls Tryz.prog 46 #[] W fun e W' => e = .returned (.tuple #[zeroV, excN typeError]) ∧ Sep w Rs W' := by
 obtain ⟨b, hb⟩ : ∃ gx_, (W.heap.size) = gx_ := ⟨_, rfl⟩
 have S1 := (S.alloc (.cells #[.int .i64 0, .int .i64 0, .string ⟨#[]⟩] 24)).alloc (.cells #[.string ⟨#[]⟩, .int .i64 0, .int .i64 0, .string ⟨#[]⟩, .bool false] 33)
 simp only [World.size_alloc, hb] at S1
 have K := Lib.hid ((raise_ok _ typeError).mono fun e W' (hh : _ ∧ _) => (⟨hh.1, S1.later hh.2⟩ : _ ∧ Sep w _ W'))
 have FR : Hid (∀ W', Sep w (anyR (b + 1) :: anyR b :: Rs) W' → Sep w Rs W') := Lib.hid fun W' T => T.tail.tail
 clear S S1
 go_enter Tryz.func46, Tryz.ntmps46
 go_wp2_with fail
 try simp only [World.size_alloc, hb]
 refine K.out.mono ?_
 rintro e w1 ⟨rfl, S⟩
 clear K hb
 have hz := S.box (b := b + 1) 0 rfl
 have z0 := cellAt hz 0 (v := .string ⟨#[]⟩) rfl
 have z1 := cellAt hz 1 (v := .int .i64 0) rfl
 have z2 := cellAt hz 2 (v := .int .i64 0) rfl
 have z3 := cellAt hz 3 (v := .string ⟨#[]⟩) rfl
 have z4 := cellAt hz 4 (v := .bool false) rfl
 have z5 := frozenAt hz 0
 have z6 := frozenAt hz 1
 have z7 := frozenAt hz 2
 have z8 := frozenAt hz 3
 have z9 := frozenAt hz 4
 have hv := S.box (b := b) 1 rfl
 have v0 := cellAt hv 0 (v := .int .i64 0) rfl
 have v1 := cellAt hv 1 (v := .int .i64 0) rfl
 have v2 := cellAt hv 2 (v := .string ⟨#[]⟩) rfl
 have v3 := frozenAt hv 0
 have v4 := frozenAt hv 1
 have v5 := frozenAt hv 2
 have S9 := Lib.hid ((S.toAny (q := b + 1) 0 rfl).toAny (q := b) 1 rfl)
 clear S hz hv
 go_wp2
 refine bodyPost_ret (v := .tuple #[zeroV, excN typeError]) ?_ ?_ ?_
 ·
  simp [results, Tryz.results46, go_sem, z0, z1, z2, z3, z4, v0, v1, v2]
 ·
  rfl
 refine ⟨rfl, FR.out _ ?_⟩
 iterate 5 refine Sep.poke (q := b + 1) ?_ 0 rfl _ _
 iterate 3 refine Sep.poke (q := b) ?_ 1 rfl _ _
 exact S9.out
end
end Go.Proofs.YtijlebhoapdfnaaGreat
