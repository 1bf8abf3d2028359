/- ch 16: fresh, add, Bin. -/
import Derived.Test.YtijlebhoapdfnaaGreatCmpT
import Derived.Test.YtijlebhoapdfnaaGreatOprC
/- ch 16: Same; the same one. -/
set_option maxRecDepth 100000
set_option maxHeartbeats 2000000
namespace Go.Proofs.YtijlebhoapdfnaaGreat
set_option linter.unusedSimpArgs false
open Go.RowKit
set_option linter.unusedVariables false
section
variable {w W : World} {Rs : List Res} {h : Nat} {H : HeapM}
theorem sameOp_ok {N : Nat} (G : H.Good N) (hN : N ≤ 4000000) (i : Nat) (S : Sep w Rs W) (hi : Rs[i]? = some (heapR h H)) (x y : V) :
  Calls Tryz.prog 27 #[.pointer (some ⟨h, 0, none⟩), .agg #[.int .i64 x.kind, .int .i64 x.n, .string x.s], .agg #[.int .i64 y.kind, .int .i64 y.n, .string y.s]] W fun e W' => e = .returned (sameV (H.sameF 30 x y)) ∧ Sep w Rs W' := by
 obtain ⟨b, hb⟩ : ∃ gx_, (W.heap.size) = gx_ := ⟨_, rfl⟩
 have S1 := ((S.alloc (.cells #[.int .i64 x.kind, .int .i64 x.n, .string x.s] 24)).alloc (.cells #[.int .i64 y.kind, .int .i64 y.n, .string y.s] 24)).alloc (.cells #[.string ⟨#[]⟩, .int .i64 0, .int .i64 0, .string ⟨#[]⟩, .bool false] 33)
 simp only [World.size_alloc, hb] at S1
 have K := Lib.hid (same_ok G hN 30 S1 (i + 3) (by simpa using hi) x y 0 (by simp) (by simp))
 obtain ⟨d00, d01, d02⟩ := wpVal x (S1.box (b := b) 2 rfl)
 obtain ⟨d10, d11, d12⟩ := wpVal y (S1.box (b := b + 1) 1 rfl)
 obtain ⟨r, hr⟩ : ∃ r, H.sameF 30 x y = r := ⟨_, rfl⟩
 rw [hr] at K ⊢
 have FR : Hid (∀ W', Sep w (anyR (b + 1 + 1) :: boxV (b + 1) y :: boxV b x :: Rs) W' → Sep w Rs W') := Lib.hid fun W' T => T.tail.tail.tail
 clear S S1 hi hr
 go_enter Tryz.func27, Tryz.ntmps27
 go_wp2_with fail
 try simp only [World.size_alloc, hb]
 refine K.out.mono ?_
 rintro e w1 ⟨rfl, S⟩
 clear K hb d00 d01 d02 d10 d11 d12
 have hz := S.box (b := b + 1 + 1) 0 rfl
 have z0 := cellAt hz 0 (v := .string ⟨#[]⟩) rfl
 have z1 := cellAt hz 1 (v := .int .i64 0) rfl
 have z2 := cellAt hz 2 (v := .int .i64 0) rfl
 have z3 := cellAt hz 3 (v := .string ⟨#[]⟩) rfl
 have z4 := cellAt hz 4 (v := .bool false) rfl
 have z5 := frozenAt hz 0
 have z6 := frozenAt hz 1
 have z7 := frozenAt hz 2
 have z8 := frozenAt hz 3
 have z9 := frozenAt hz 4
 have S9 := Lib.hid (S.toAny (q := b + 1 + 1) 0 rfl)
 clear S hz
 cases r with
 | none =>
  simp only [sameV]
  go_wp2
  refine bodyPost_ret (v := .tuple #[.bool false, excN recursionError]) ?_ ?_ ?_
  ·
   simp [results, Tryz.results27, go_sem, z0, z1, z2, z3, z4]
  ·
   rfl
  refine ⟨rfl, FR.out _ ?_⟩
  iterate 5 refine Sep.poke (q := b + 1 + 1) ?_ 0 rfl _ _
  exact S9.out
 | some c =>
  simp only [sameV, Option.getD_some]
  go_wp2
  refine bodyPost_ret (v := .tuple #[.bool c, excZ]) ?_ ?_ ?_
  ·
   simp [results, Tryz.results27, go_sem, z0, z1, z2, z3, z4]
  ·
   rfl
  refine ⟨rfl, FR.out _ ?_⟩
  iterate 5 refine Sep.poke (q := b + 1 + 1) ?_ 0 rfl _ _
  exact S9.out
theorem wrong_ok (S : Sep w Rs W) : Calls Tryz.prog 46 #[] W fun e W' => e = .returned (.tuple #[zeroV, excN typeError]) ∧ Sep w Rs W' := by
 obtain ⟨b, hb⟩ : ∃ gx_, (W.heap.size) = gx_ := ⟨_, rfl⟩
 have S1 := (S.alloc (.cells #[.int .i64 0, .int .i64 0, .string ⟨#[]⟩] 24)).alloc (.cells #[.string ⟨#[]⟩, .int .i64 0, .int .i64 0, .string ⟨#[]⟩, .bool false] 33)
 simp only [World.size_alloc, hb] at S1
 have K := Lib.hid ((raise_ok _ typeError).mono fun e W' (hh : _ ∧ _) => (⟨hh.1, S1.later hh.2⟩ : _ ∧ Sep w _ W'))
 have FR : Hid (∀ W', Sep w (anyR (b + 1) :: anyR b :: Rs) W' → Sep w Rs W') := Lib.hid fun W' T => T.tail.tail
 clear S S1
 go_enter Tryz.func46, Tryz.ntmps46
 go_wp2_with fail
 try simp only [World.size_alloc, hb]
 refine K.out.mono ?_
 rintro e w1 ⟨rfl, S⟩
 clear K hb
 have hz := S.box (b := b + 1) 0 rfl
 have z0 := cellAt hz 0 (v := .string ⟨#[]⟩) rfl
 have z1 := cellAt hz 1 (v := .int .i64 0) rfl
 have z2 := cellAt hz 2 (v := .int .i64 0) rfl
 have z3 := cellAt hz 3 (v := .string ⟨#[]⟩) rfl
 have z4 := cellAt hz 4 (v := .bool false) rfl
 have z5 := frozenAt hz 0
 have z6 := frozenAt hz 1
 have z7 := frozenAt hz 2
 have z8 := frozenAt hz 3
 have z9 := frozenAt hz 4
 have hv := S.box (b := b) 1 rfl
 have v0 := cellAt hv 0 (v := .int .i64 0) rfl
 have v1 := cellAt hv 1 (v := .int .i64 0) rfl
 have v2 := cellAt hv 2 (v := .string ⟨#[]⟩) rfl
 have v3 := frozenAt hv 0
 have v4 := frozenAt hv 1
 have v5 := frozenAt hv 2
 have S9 := Lib.hid ((S.toAny (q := b + 1) 0 rfl).toAny (q := b) 1 rfl)
 clear S hz hv
 go_wp2
 refine bodyPost_ret (v := .tuple #[zeroV, excN typeError]) ?_ ?_ ?_
 ·
  simp [results, Tryz.results46, go_sem, z0, z1, z2, z3, z4, v0, v1, v2]
 ·
  rfl
 refine ⟨rfl, FR.out _ ?_⟩
 iterate 5 refine Sep.poke (q := b + 1) ?_ 0 rfl _ _
 iterate 3 refine Sep.poke (q := b) ?_ 1 rfl _ _
 exact S9.out
end
end Go.Proofs.YtijlebhoapdfnaaGreat
set_option maxRecDepth 100000
set_option maxHeartbeats 4000000
namespace Go.Proofs.YtijlebhoapdfnaaGreat
set_option linter.unusedSimpArgs false
open Go.RowKit
set_option linter.unusedVariables false
/-- A row as an object. -/
def rowO (k : Int) (hk : okI k) (l : List V) : ObjM := ⟨k, ⟨#[]⟩, 0, l, [], hk, by decide, by decide⟩
section
variable {w W : World} {Rs : List Res} {h : Nat} {H : HeapM}
theorem add_wrong (S : Sep w Rs W) (i : Nat) (hi : Rs[i]? = some (heapR h H)) (x y : V) (hstr : ¬(x.kind = 3 ∧ y.kind = 3)) (hrow : ¬(H.rowB x = true ∧ H.kind x = H.kind y)) :
  Calls Tryz.prog 54 #[.pointer (some ⟨h, 0, none⟩), .agg #[.int .i64 x.kind, .int .i64 x.n, .string x.s], .agg #[.int .i64 y.kind, .int .i64 y.n, .string y.s]] W fun e W' => e = .returned (.tuple #[zeroV, excN typeError]) ∧ Sep w Rs W' := by
 obtain ⟨b, hb⟩ : ∃ gx_, (W.heap.size) = gx_ := ⟨_, rfl⟩
 have S1 := (((S.alloc (.cells #[.int .i64 x.kind, .int .i64 x.n, .string x.s] 24)).alloc (.cells #[.int .i64 y.kind, .int .i64 y.n, .string y.s] 24)).alloc (.cells #[.int .i64 0, .int .i64 0, .string ⟨#[]⟩] 24)).alloc (.cells #[.string ⟨#[]⟩, .int .i64 0, .int .i64 0, .string ⟨#[]⟩, .bool false] 33)
 simp only [World.size_alloc, hb] at S1
 replace S1 : Sep w (boxE (b + 1 + 1 + 1) :: boxZ (b + 1 + 1) :: boxV (b + 1) y :: boxV b x :: Rs) _ := S1
 obtain ⟨d00, d01, d02⟩ := wpVal x (S1.box (b := b) 3 rfl)
 obtain ⟨d10, d11, d12⟩ := wpVal y (S1.box (b := b + 1) 2 rfl)
 obtain ⟨r, hr⟩ : ∃ r, H.rowB x = r := ⟨_, rfl⟩
 obtain ⟨kx, hkx⟩ : ∃ k, H.kind x = k := ⟨_, rfl⟩
 obtain ⟨ky, hky⟩ : ∃ k, H.kind y = k := ⟨_, rfl⟩
 rw [hr, hkx, hky] at hrow
 have KR := Lib.hid (fun W (S : Sep w (boxE (b + 1 + 1 + 1) :: boxZ (b + 1 + 1) :: boxV (b + 1) y :: boxV b x :: Rs) W) => row_ok S (i + 4) (by simpa using hi) x r hr)
 have KX := Lib.hid (fun W (S : Sep w (boxE (b + 1 + 1 + 1) :: boxZ (b + 1 + 1) :: boxV (b + 1) y :: boxV b x :: Rs) W) => kind_at S (i + 4) (by simpa using hi) x kx hkx)
 have KY := Lib.hid (fun W (S : Sep w (boxE (b + 1 + 1 + 1) :: boxZ (b + 1 + 1) :: boxV (b + 1) y :: boxV b x :: Rs) W) => kind_at S (i + 4) (by simpa using hi) y ky hky)
 have KW := Lib.hid (fun W (S : Sep w (boxE (b + 1 + 1 + 1) :: boxZ (b + 1 + 1) :: boxV (b + 1) y :: boxV b x :: Rs) W) => wrong_ok S)
 have HS := Lib.hid S1
 have hb0 := Lib.hid hb
 clear S S1 hi hr hkx hky
 go_enter Tryz.func54, Tryz.ntmps54
 by_cases hx3 : x.kind = 3
 ·
  have hy3 : ¬ y.kind = 3 := fun e => hstr ⟨hx3, e⟩
  have hx4 : (x.kind == 3) = true := by simp [hx3]
  have hy4 : (y.kind == 3) = false := by simp [hy3]
  clear hstr hx3 hy3
  go_upto_region 3 with fail
  try simp only [World.size_alloc, hb]
  clear hb d00 d01 d02 d10 d11 d12
  cases r with
  | false =>
   refine wp_region_sep (by kernel_rfl) (by kernel_rfl) (HS.out) ?_
   repeat (first | go_big_quiet_skip | (go_big_quiet_want; apply Exists.intro; refine ⟨fun Wq hWq => ?_, ?_⟩; (focus (have d0 := wpVal x (hWq.box (b := b) 3 rfl); have d1 := wpVal y (hWq.box (b := b + 1) 2 rfl); obtain ⟨d00, d01, d02⟩ := d0; obtain ⟨d10, d11, d12⟩ := d1; go_simp; first | done | rfl | exact ⟨rfl, rfl⟩ | (with_reducible (exact KR.out _ hWq)))); go_big_quiet_on; simp only [Act.put, List.setIfInBounds_toArray, List.set_cons_zero, List.set_cons_succ]))
   refine wpQuiet_nil ?_
   intro wq hq
   have S := hq
   clear hq
   have M := Lib.hid (KW.out _ S)
   clear S
   go_wp2_with fail
   refine M.out.mono ?_
   rintro e w8 ⟨rfl, S⟩
   clear M
   have hz := S.box (b := b + 1 + 1 + 1) 0 rfl
   have z0 := cellAt hz 0 (v := .string ⟨#[]⟩) rfl
   have z1 := cellAt hz 1 (v := .int .i64 0) rfl
   have z2 := cellAt hz 2 (v := .int .i64 0) rfl
   have z3 := cellAt hz 3 (v := .string ⟨#[]⟩) rfl
   have z4 := cellAt hz 4 (v := .bool false) rfl
   have z5 := frozenAt hz 0
   have z6 := frozenAt hz 1
   have z7 := frozenAt hz 2
   have z8 := frozenAt hz 3
   have z9 := frozenAt hz 4
   have hv := S.box (b := b + 1 + 1) 1 rfl
   have v0 := cellAt hv 0 (v := .int .i64 0) rfl
   have v1 := cellAt hv 1 (v := .int .i64 0) rfl
   have v2 := cellAt hv 2 (v := .string ⟨#[]⟩) rfl
   have v3 := frozenAt hv 0
   have v4 := frozenAt hv 1
   have v5 := frozenAt hv 2
   have S9 := Lib.hid ((S.toAny (q := b + 1 + 1 + 1) 0 rfl).toAny (q := b + 1 + 1) 1 rfl)
   have FR : Hid (∀ W', Sep w (anyR (b + 1 + 1 + 1) :: anyR (b + 1 + 1) :: boxV (b + 1) y :: boxV b x :: Rs) W' → Sep w (Rs) W') := Lib.hid fun W' T => T.tail.tail.tail.tail
   clear S hz hv
   go_wp2
   refine bodyPost_ret (v := .tuple #[zeroV, excN typeError]) ?_ ?_ ?_
   ·
    simp [results, Tryz.results54, go_sem, z0, z1, z2, z3, z4, v0, v1, v2]
   ·
    rfl
   refine ⟨rfl, FR.out _ ?_⟩
   iterate 5 refine Sep.poke (q := b + 1 + 1 + 1) ?_ 0 rfl _ _
   iterate 3 refine Sep.poke (q := b + 1 + 1) ?_ 1 rfl _ _
   exact S9.out
  | true =>
   have hne : kx ≠ ky := fun e => hrow ⟨rfl, e⟩
   have hb2 : (kx == ky) = false := by simp [hne]
   refine wp_region_sep (by kernel_rfl) (by kernel_rfl) (HS.out) ?_
   repeat (first | go_big_quiet_skip | (go_big_quiet_want; apply Exists.intro; refine ⟨fun Wq hWq => ?_, ?_⟩; (focus (have d0 := wpVal x (hWq.box (b := b) 3 rfl); have d1 := wpVal y (hWq.box (b := b + 1) 2 rfl); obtain ⟨d00, d01, d02⟩ := d0; obtain ⟨d10, d11, d12⟩ := d1; go_simp; first | done | rfl | exact ⟨rfl, rfl⟩ | (with_reducible (first | exact KR.out _ hWq | exact KX.out _ hWq | exact KY.out _ hWq)))); go_big_quiet_on; simp only [Act.put, List.setIfInBounds_toArray, List.set_cons_zero, List.set_cons_succ]))
   refine wpQuiet_nil ?_
   intro wq hq
   have S := hq
   clear hq
   have M := Lib.hid (KW.out _ S)
   clear S
   go_wp2_with fail
   refine M.out.mono ?_
   rintro e w8 ⟨rfl, S⟩
   clear M
   have hz := S.box (b := b + 1 + 1 + 1) 0 rfl
   have z0 := cellAt hz 0 (v := .string ⟨#[]⟩) rfl
   have z1 := cellAt hz 1 (v := .int .i64 0) rfl
   have z2 := cellAt hz 2 (v := .int .i64 0) rfl
   have z3 := cellAt hz 3 (v := .string ⟨#[]⟩) rfl
   have z4 := cellAt hz 4 (v := .bool false) rfl
   have z5 := frozenAt hz 0
   have z6 := frozenAt hz 1
   have z7 := frozenAt hz 2
   have z8 := frozenAt hz 3
   have z9 := frozenAt hz 4
   have hv := S.box (b := b + 1 + 1) 1 rfl
   have v0 := cellAt hv 0 (v := .int .i64 0) rfl
   have v1 := cellAt hv 1 (v := .int .i64 0) rfl
   have v2 := cellAt hv 2 (v := .string ⟨#[]⟩) rfl
   have v3 := frozenAt hv 0
   have v4 := frozenAt hv 1
   have v5 := frozenAt hv 2
   have S9 := Lib.hid ((S.toAny (q := b + 1 + 1 + 1) 0 rfl).toAny (q := b + 1 + 1) 1 rfl)
   have FR : Hid (∀ W', Sep w (anyR (b + 1 + 1 + 1) :: anyR (b + 1 + 1) :: boxV (b + 1) y :: boxV b x :: Rs) W' → Sep w (Rs) W') := Lib.hid fun W' T => T.tail.tail.tail.tail
   clear S hz hv
   go_wp2
   refine bodyPost_ret (v := .tuple #[zeroV, excN typeError]) ?_ ?_ ?_
   ·
    simp [results, Tryz.results54, go_sem, z0, z1, z2, z3, z4, v0, v1, v2]
   ·
    rfl
   refine ⟨rfl, FR.out _ ?_⟩
   iterate 5 refine Sep.poke (q := b + 1 + 1 + 1) ?_ 0 rfl _ _
   iterate 3 refine Sep.poke (q := b + 1 + 1) ?_ 1 rfl _ _
   exact S9.out
 ·
  have hx4 : (x.kind == 3) = false := by simp [hx3]
  clear hstr hx3
  go_upto_region 3 with fail
  try simp only [World.size_alloc, hb]
  clear hb d00 d01 d02 d10 d11 d12
  cases r with
  | false =>
   refine wp_region_sep (by kernel_rfl) (by kernel_rfl) (HS.out) ?_
   repeat (first | go_big_quiet_skip | (go_big_quiet_want; apply Exists.intro; refine ⟨fun Wq hWq => ?_, ?_⟩; (focus (have d0 := wpVal x (hWq.box (b := b) 3 rfl); have d1 := wpVal y (hWq.box (b := b + 1) 2 rfl); obtain ⟨d00, d01, d02⟩ := d0; obtain ⟨d10, d11, d12⟩ := d1; go_simp; first | done | rfl | exact ⟨rfl, rfl⟩ | (with_reducible (exact KR.out _ hWq)))); go_big_quiet_on; simp only [Act.put, List.setIfInBounds_toArray, List.set_cons_zero, List.set_cons_succ]))
   refine wpQuiet_nil ?_
   intro wq hq
   have S := hq
   clear hq
   have M := Lib.hid (KW.out _ S)
   clear S
   go_wp2_with fail
   refine M.out.mono ?_
   rintro e w8 ⟨rfl, S⟩
   clear M
   have hz := S.box (b := b + 1 + 1 + 1) 0 rfl
   have z0 := cellAt hz 0 (v := .string ⟨#[]⟩) rfl
   have z1 := cellAt hz 1 (v := .int .i64 0) rfl
   have z2 := cellAt hz 2 (v := .int .i64 0) rfl
   have z3 := cellAt hz 3 (v := .string ⟨#[]⟩) rfl
   have z4 := cellAt hz 4 (v := .bool false) rfl
   have z5 := frozenAt hz 0
   have z6 := frozenAt hz 1
   have z7 := frozenAt hz 2
   have z8 := frozenAt hz 3
   have z9 := frozenAt hz 4
   have hv := S.box (b := b + 1 + 1) 1 rfl
   have v0 := cellAt hv 0 (v := .int .i64 0) rfl
   have v1 := cellAt hv 1 (v := .int .i64 0) rfl
   have v2 := cellAt hv 2 (v := .string ⟨#[]⟩) rfl
   have v3 := frozenAt hv 0
   have v4 := frozenAt hv 1
   have v5 := frozenAt hv 2
   have S9 := Lib.hid ((S.toAny (q := b + 1 + 1 + 1) 0 rfl).toAny (q := b + 1 + 1) 1 rfl)
   have FR : Hid (∀ W', Sep w (anyR (b + 1 + 1 + 1) :: anyR (b + 1 + 1) :: boxV (b + 1) y :: boxV b x :: Rs) W' → Sep w (Rs) W') := Lib.hid fun W' T => T.tail.tail.tail.tail
   clear S hz hv
   go_wp2
   refine bodyPost_ret (v := .tuple #[zeroV, excN typeError]) ?_ ?_ ?_
   ·
    simp [results, Tryz.results54, go_sem, z0, z1, z2, z3, z4, v0, v1, v2]
   ·
    rfl
   refine ⟨rfl, FR.out _ ?_⟩
   iterate 5 refine Sep.poke (q := b + 1 + 1 + 1) ?_ 0 rfl _ _
   iterate 3 refine Sep.poke (q := b + 1 + 1) ?_ 1 rfl _ _
   exact S9.out
  | true =>
   have hne : kx ≠ ky := fun e => hrow ⟨rfl, e⟩
   have hb2 : (kx == ky) = false := by simp [hne]
   refine wp_region_sep (by kernel_rfl) (by kernel_rfl) (HS.out) ?_
   repeat (first | go_big_quiet_skip | (go_big_quiet_want; apply Exists.intro; refine ⟨fun Wq hWq => ?_, ?_⟩; (focus (have d0 := wpVal x (hWq.box (b := b) 3 rfl); have d1 := wpVal y (hWq.box (b := b + 1) 2 rfl); obtain ⟨d00, d01, d02⟩ := d0; obtain ⟨d10, d11, d12⟩ := d1; go_simp; first | done | rfl | exact ⟨rfl, rfl⟩ | (with_reducible (first | exact KR.out _ hWq | exact KX.out _ hWq | exact KY.out _ hWq)))); go_big_quiet_on; simp only [Act.put, List.setIfInBounds_toArray, List.set_cons_zero, List.set_cons_succ]))
   refine wpQuiet_nil ?_
   intro wq hq
   have S := hq
   clear hq
   have M := Lib.hid (KW.out _ S)
   clear S
   go_wp2_with fail
   refine M.out.mono ?_
   rintro e w8 ⟨rfl, S⟩
   clear M
   have hz := S.box (b := b + 1 + 1 + 1) 0 rfl
   have z0 := cellAt hz 0 (v := .string ⟨#[]⟩) rfl
   have z1 := cellAt hz 1 (v := .int .i64 0) rfl
   have z2 := cellAt hz 2 (v := .int .i64 0) rfl
   have z3 := cellAt hz 3 (v := .string ⟨#[]⟩) rfl
   have z4 := cellAt hz 4 (v := .bool false) rfl
   have z5 := frozenAt hz 0
   have z6 := frozenAt hz 1
   have z7 := frozenAt hz 2
   have z8 := frozenAt hz 3
   have z9 := frozenAt hz 4
   have hv := S.box (b := b + 1 + 1) 1 rfl
   have v0 := cellAt hv 0 (v := .int .i64 0) rfl
   have v1 := cellAt hv 1 (v := .int .i64 0) rfl
   have v2 := cellAt hv 2 (v := .string ⟨#[]⟩) rfl
   have v3 := frozenAt hv 0
   have v4 := frozenAt hv 1
   have v5 := frozenAt hv 2
   have S9 := Lib.hid ((S.toAny (q := b + 1 + 1 + 1) 0 rfl).toAny (q := b + 1 + 1) 1 rfl)
   have FR : Hid (∀ W', Sep w (anyR (b + 1 + 1 + 1) :: anyR (b + 1 + 1) :: boxV (b + 1) y :: boxV b x :: Rs) W' → Sep w (Rs) W') := Lib.hid fun W' T => T.tail.tail.tail.tail
   clear S hz hv
   go_wp2
   refine bodyPost_ret (v := .tuple #[zeroV, excN typeError]) ?_ ?_ ?_
   ·
    simp [results, Tryz.results54, go_sem, z0, z1, z2, z3, z4, v0, v1, v2]
   ·
    rfl
   refine ⟨rfl, FR.out _ ?_⟩
   iterate 5 refine Sep.poke (q := b + 1 + 1 + 1) ?_ 0 rfl _ _
   iterate 3 refine Sep.poke (q := b + 1 + 1) ?_ 1 rfl _ _
   exact S9.out
theorem eql_func_nil (W : World) (fn : Fn) (a c : Array Value) : (binOp .eql 44 (.func fn a c) .nilFunc).run Tryz.prog W = .ok (.bool false) W := by
 have h : ∀ d : Nat, (Op.equalIn (d + 1) 44 (.func fn a c) .nilFunc).run Tryz.prog W = .ok false W := fun d => by
  simp [Op.equalIn, run_underlying Tryz.underlying44]
 simp only [binOp]
 simp [Op.equal, Op.maxDepth, h 9999]
def exF (v : Value) : Value := v
abbrev binR (m : Nat) (l : List (ByteArray × Value)) : Res := mapR 9 ekS exF m l
theorem binPut {m : Nat} {l l' : List (ByteArray × Value)} (i : Nat) (S : Sep w Rs W) (hi : Rs[i]? = some (binR m l)) (k : ByteArray) (hk : k.size ≤ maxLen) (f : Value) (hl : getL l k = none) (hl' : l' = l ++ [(k, f)]) :
  ∃ W', (Instr.mapUpdate 84 (.map (some m)) (.string k) f).run Tryz.prog W = .ok () W' ∧ Sep w (Rs.set i (binR m l')) W' ∧ W'.heap.size = W.heap.size := by
 subst hl'
 obtain ⟨kl, hkl⟩ := keyOfS k hk
 have := S.mapPut i hi ekS_inj keyS_ Tryz.underlying84 hkl f
 rw [putL_none _ hl] at this
 exact this
abbrev binT : List (ByteArray × Value) := [(⟨#[43]⟩, .func (.func 54) #[] #[]), (⟨#[42]⟩, .func (.func 55) #[] #[])]
theorem bin_add {Rs' : List Res} (S : Sep w Rs W) (op : ByteArray) (hops : op.size ≤ maxLen) (x y : V) (hint : ¬(x.kind = 2 ∧ y.kind = 2)) (hop : getL binT op = some (.func (.func 54) #[] #[])) (vk vn : Int) (vs nm : ByteArray)
  (KD : ∀ (Q : List Res) (W : World), Sep w (Q ++ Rs) W → Calls Tryz.prog 54 #[.pointer (some ⟨h, 0, none⟩), .agg #[.int .i64 x.kind, .int .i64 x.n, .string x.s], .agg #[.int .i64 y.kind, .int .i64 y.n, .string y.s]] W fun e W' => e = .returned (.tuple #[.agg #[.int .i64 vk, .int .i64 vn, .string vs], excN nm]) ∧ Sep w (Q ++ Rs') W') :
  Calls Tryz.prog 12 #[.pointer (some ⟨h, 0, none⟩), .string op, .agg #[.int .i64 x.kind, .int .i64 x.n, .string x.s], .agg #[.int .i64 y.kind, .int .i64 y.n, .string y.s]] W fun e W' => e = .returned (.tuple #[.agg #[.int .i64 vk, .int .i64 vn, .string vs], excN nm]) ∧ Sep w Rs' W' := by
 obtain ⟨b, hb⟩ : ∃ gx_, (W.heap.size) = gx_ := ⟨_, rfl⟩
 have S1 := (((S.alloc (.cells #[.int .i64 x.kind, .int .i64 x.n, .string x.s] 24)).alloc (.cells #[.int .i64 y.kind, .int .i64 y.n, .string y.s] 24)).alloc (.cells #[.int .i64 0, .int .i64 0, .string ⟨#[]⟩] 24)).alloc (.cells #[.string ⟨#[]⟩, .int .i64 0, .int .i64 0, .string ⟨#[]⟩, .bool false] 33)
 simp only [World.size_alloc, hb] at S1
 replace S1 : Sep w (boxE (b + 1 + 1 + 1) :: boxZ (b + 1 + 1) :: boxV (b + 1) y :: boxV b x :: Rs) _ := S1
 obtain ⟨d00, d01, d02⟩ := wpVal x (S1.box (b := b) 3 rfl)
 obtain ⟨d10, d11, d12⟩ := wpVal y (S1.box (b := b + 1) 2 rfl)
 obtain ⟨m, hm⟩ : ∃ m, m = b + 1 + 1 + 1 + 1 := ⟨_, rfl⟩
 have S2 := S1.mapMade 9 ekS exF
 simp only [World.size_alloc, hb] at S2
 rw [← hm] at S2
 obtain ⟨W0, hW0⟩ : ∃ W0, W0 = ((((W.alloc (.cells #[.int .i64 x.kind, .int .i64 x.n, .string x.s] 24)).alloc (.cells #[.int .i64 y.kind, .int .i64 y.n, .string y.s] 24)).alloc (.cells #[.int .i64 0, .int .i64 0, .string ⟨#[]⟩] 24)).alloc (.cells #[.string ⟨#[]⟩, .int .i64 0, .int .i64 0, .string ⟨#[]⟩, .bool false] 33)).alloc (.map #[] 0) := ⟨_, rfl⟩
 rw [← hW0] at S2
 replace S2 : Sep w (binR m [] :: boxE (b + 1 + 1 + 1) :: boxZ (b + 1 + 1) :: boxV (b + 1) y :: boxV b x :: Rs) W0 := S2
 obtain ⟨W1, r1, T1, z1⟩ := binPut (l' := [binT.head (by simp)]) 0 S2 rfl ⟨#[43]⟩ (by decide) _ rfl rfl
 obtain ⟨W2, r2, T2, z2⟩ := binPut (l' := binT) 0 T1 rfl ⟨#[42]⟩ (by decide) (.func (.func 55) #[] #[]) rfl rfl
 replace T2 : Sep w (binR m binT :: boxE (b + 1 + 1 + 1) :: boxZ (b + 1 + 1) :: boxV (b + 1) y :: boxV b x :: Rs) W2 := T2
 obtain ⟨kl, hkl⟩ := keyOfS op hops
 have LK := (T2.mapLook 0 rfl).look ekS_inj keyS_ Tryz.underlying84 (Tryz.zeroValue44 W2) hkl false
 rw [hop] at LK
 replace LK : (Instr.lookup 84 (.map (some m)) (.string op) false).run Tryz.prog W2 = .ok (.func (.func 54) #[] #[]) W2 := LK
 have hmk : (Instr.makeMap 84 none).run Tryz.prog ((((W.alloc (.cells #[.int .i64 x.kind, .int .i64 x.n, .string x.s] 24)).alloc (.cells #[.int .i64 y.kind, .int .i64 y.n, .string y.s] 24)).alloc (.cells #[.int .i64 0, .int .i64 0, .string ⟨#[]⟩] 24)).alloc (.cells #[.string ⟨#[]⟩, .int .i64 0, .int .i64 0, .string ⟨#[]⟩, .bool false] 33)) = .ok (.map (some m)) W0 := by
  rw [run_makeMap, hW0, hm]; simp only [World.size_alloc, hb]
 have S := T2.tail
 obtain ⟨e00, e01, e02⟩ := wpVal x (S.box (b := b) 3 rfl)
 obtain ⟨e10, e11, e12⟩ := wpVal y (S.box (b := b + 1) 2 rfl)
 have M := Lib.hid (KD [boxE (b + 1 + 1 + 1), boxZ (b + 1 + 1), boxV (b + 1) y, boxV b x] _ S)
 clear KD
 have EF := eql_func_nil
 clear S S1 S2 T1 T2 z1 z2 hW0 hm hkl
 by_cases hx : x.kind = 2
 ·
  have hy : ¬ y.kind = 2 := fun e => hint ⟨hx, e⟩
  have hx4 : (x.kind == 2) = true := by simp [hx]
  have hy4 : (y.kind == 2) = false := by simp [hy]
  clear hint hx hy
  go_enter Tryz.func12, Tryz.ntmps12
  go_wp2_with fail
  try simp only [World.size_alloc, hb]
  refine M.out.mono ?_
  rintro e w8 ⟨rfl, S⟩
  clear M LK r1 r2 hmk hb d00 d01 d02 d10 d11 d12 e00 e01 e02 e10 e11 e12
  have hz := S.box (b := b + 1 + 1 + 1) 0 rfl
  have z0 := cellAt hz 0 (v := .string ⟨#[]⟩) rfl
  have z1 := cellAt hz 1 (v := .int .i64 0) rfl
  have z2 := cellAt hz 2 (v := .int .i64 0) rfl
  have z3 := cellAt hz 3 (v := .string ⟨#[]⟩) rfl
  have z4 := cellAt hz 4 (v := .bool false) rfl
  have z5 := frozenAt hz 0
  have z6 := frozenAt hz 1
  have z7 := frozenAt hz 2
  have z8 := frozenAt hz 3
  have z9 := frozenAt hz 4
  have hv := S.box (b := b + 1 + 1) 1 rfl
  have v0 := cellAt hv 0 (v := .int .i64 0) rfl
  have v1 := cellAt hv 1 (v := .int .i64 0) rfl
  have v2 := cellAt hv 2 (v := .string ⟨#[]⟩) rfl
  have v3 := frozenAt hv 0
  have v4 := frozenAt hv 1
  have v5 := frozenAt hv 2
  have S9 := Lib.hid ((S.toAny (q := b + 1 + 1 + 1) 0 rfl).toAny (q := b + 1 + 1) 1 rfl)
  have FR : Hid (∀ W', Sep w (anyR (b + 1 + 1 + 1) :: anyR (b + 1 + 1) :: boxV (b + 1) y :: boxV b x :: Rs') W' → Sep w (Rs') W') := Lib.hid fun W' T => T.tail.tail.tail.tail
  clear S hz hv
  go_wp2
  refine bodyPost_ret (v := .tuple #[.agg #[.int .i64 vk, .int .i64 vn, .string vs], excN nm]) ?_ ?_ ?_
  ·
   simp [results, Tryz.results12, go_sem, z0, z1, z2, z3, z4, v0, v1, v2]
  ·
   rfl
  refine ⟨rfl, FR.out _ ?_⟩
  iterate 5 refine Sep.poke (q := b + 1 + 1 + 1) ?_ 0 rfl _ _
  iterate 3 refine Sep.poke (q := b + 1 + 1) ?_ 1 rfl _ _
  exact S9.out
 ·
  have hx4 : (x.kind == 2) = false := by simp [hx]
  clear hint hx
  go_enter Tryz.func12, Tryz.ntmps12
  go_wp2_with fail
  try simp only [World.size_alloc, hb]
  refine M.out.mono ?_
  rintro e w8 ⟨rfl, S⟩
  clear M LK r1 r2 hmk hb d00 d01 d02 d10 d11 d12 e00 e01 e02 e10 e11 e12
  have hz := S.box (b := b + 1 + 1 + 1) 0 rfl
  have z0 := cellAt hz 0 (v := .string ⟨#[]⟩) rfl
  have z1 := cellAt hz 1 (v := .int .i64 0) rfl
  have z2 := cellAt hz 2 (v := .int .i64 0) rfl
  have z3 := cellAt hz 3 (v := .string ⟨#[]⟩) rfl
  have z4 := cellAt hz 4 (v := .bool false) rfl
  have z5 := frozenAt hz 0
  have z6 := frozenAt hz 1
  have z7 := frozenAt hz 2
  have z8 := frozenAt hz 3
  have z9 := frozenAt hz 4
  have hv := S.box (b := b + 1 + 1) 1 rfl
  have v0 := cellAt hv 0 (v := .int .i64 0) rfl
  have v1 := cellAt hv 1 (v := .int .i64 0) rfl
  have v2 := cellAt hv 2 (v := .string ⟨#[]⟩) rfl
  have v3 := frozenAt hv 0
  have v4 := frozenAt hv 1
  have v5 := frozenAt hv 2
  have S9 := Lib.hid ((S.toAny (q := b + 1 + 1 + 1) 0 rfl).toAny (q := b + 1 + 1) 1 rfl)
  have FR : Hid (∀ W', Sep w (anyR (b + 1 + 1 + 1) :: anyR (b + 1 + 1) :: boxV (b + 1) y :: boxV b x :: Rs') W' → Sep w (Rs') W') := Lib.hid fun W' T => T.tail.tail.tail.tail
  clear S hz hv
  go_wp2
  refine bodyPost_ret (v := .tuple #[.agg #[.int .i64 vk, .int .i64 vn, .string vs], excN nm]) ?_ ?_ ?_
  ·
   simp [results, Tryz.results12, go_sem, z0, z1, z2, z3, z4, v0, v1, v2]
  ·
   rfl
  refine ⟨rfl, FR.out _ ?_⟩
  iterate 5 refine Sep.poke (q := b + 1 + 1 + 1) ?_ 0 rfl _ _
  iterate 3 refine Sep.poke (q := b + 1 + 1) ?_ 1 rfl _ _
  exact S9.out
end
end Go.Proofs.YtijlebhoapdfnaaGreat
