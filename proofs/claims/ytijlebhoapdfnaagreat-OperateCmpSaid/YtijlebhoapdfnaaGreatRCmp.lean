/- ch 16: the reference's comparisons. -/
import Derived.Test.YtijlebhoapdfnaaGreatRSame
import Derived.Test.YtijlebhoapdfnaaGreatInR
import Derived.Test.YtijlebhoapdfnaaGreatText8
set_option maxRecDepth 100000
set_option maxHeartbeats 12800000
namespace Go.Proofs.YtijlebhoapdfnaaGreat
set_option linter.unusedSimpArgs false
open Go.RowKit
set_option linter.unusedVariables false
attribute [local irreducible] wpSeqS wpAnyS wpPreS
section
variable {w W : World} {Rs : List Res} {h : Nat} {H : HeapM}
theorem rsameOp_ok (S : Sep w Rs W) (i : Nat) (hi : Rs[i]? = some (refR h H)) {N : Nat} (G : H.Good N) (hN : N ≤ 4000000) (x y : V) : Calls Tryz.prog 28 #[.pointer (some ⟨h, 0, none⟩), .agg #[.int .i64 x.kind, .int .i64 x.n, .string x.s], .agg #[.int .i64 y.kind, .int .i64 y.n, .string y.s]] W fun e W' => e = .returned (.tuple #[.bool ((H.sameF 30 x y).getD false), excN (nmS (H.sameF 30 x y))]) ∧ Sep w Rs W' := by
 obtain ⟨r, hr⟩ : ∃ r, r = H.sameF 30 x y := ⟨_, rfl⟩
 rw [← hr]
 have HR := Lib.hid hr
 clear hr
 obtain ⟨b, hb⟩ : ∃ gx_, (W.heap.size) = gx_ := ⟨_, rfl⟩
 replace S := (((S.alloc (.cells #[.int .i64 x.kind, .int .i64 x.n, .string x.s] 24)).alloc (.cells #[.int .i64 y.kind, .int .i64 y.n, .string y.s] 24)).alloc (.cells #[.string ⟨#[]⟩, .int .i64 0, .int .i64 0, .string ⟨#[]⟩, .bool false] 33))
 simp only [World.size_alloc, hb] at S
 obtain ⟨bA, hbs⟩ : ∃ l, l = boxV (b + 1) y :: boxV b x :: Rs := ⟨_, rfl⟩
 have HBS := Lib.hid hbs
 replace S := enterP (w := w) (all := [boxE (b + 1 + 1), boxV (b + 1) y, boxV b x]) (E := [boxE (b + 1 + 1)]) (B := [boxV (b + 1) y, boxV b x]) (Rs := Rs) S hbs (perm_of [0, 1, 2] (by show (List.range' 0 3).Perm [0, 1, 2]; decide) (by rfl))
 have C1 := baseC3 (w := w) (b := b + 1) hbs 0 rfl
 have C0 := baseC3 (w := w) (b := b) hbs 1 rfl
 clear hbs
 replace S := Lib.hid S
 go_enter Tryz.func28, Tryz.ntmps28
 go_upto_region 1 with fail
 try simp only [World.size_alloc, hb]
 clear hb
 have KS : QuietC w bA 123 #[hpV h, agV x, agV y, .int .i64 0] (.tuple #[.bool (r.getD false), excN (nmS r)]) := Lib.hid fun W Q T => by
  rw [HBS.out] at T ⊢
  exact (by have hh := rsame_ok G hN 30 T (Q.length + 2 + i) (atI2 hi) x y 0 (by decide) (by decide); rw [← HR.out] at hh; exact hh)
 refine regionL (E := [boxE (b + 1 + 1)]) (base := bA) S.out ?_
 clear S
 refine qa ?_
 refine qc C0 ?_
 refine qc C1 ?_
 refine qk KS ?_
 iterate 3 refine qa ?_
 refine qd undef [boxN (b + 1 + 1) (nmS r)] (h1 := fun Wx hSw => by (have hz := hSw.box (b := (b + 1 + 1)) (o := objE) 0 rfl; refine useZ5 hz fun z0 z1 z2 z3 z4 y0 y1 y2 y3 y4 => ?_; go_simp; exact ⟨rfl, hSw.set5 0 rfl (.string (nmS r)) (.int .i64 0) (.int .i64 0) (.string ⟨#[]⟩) (.bool false)⟩)) (h2 := ?_)
 refine doneL (h := fun w1 S => ?_)
 refine useR5 (S.box (b := b + 1 + 1) (o := objN (nmS r)) 0 rfl) fun r0 r1 r2 r3 r4 => ?_
 replace S := Lib.hid S
 repeat (first | go_values | go_skip | go_guarded | go_step)
 refine bodyPost_ret (v := .tuple #[.bool (r.getD false), excN (nmS r)]) ?_ ?_ ?_
 ·
  simp [results, Tryz.results28, go_sem, r0, r1, r2, r3, r4]
 ·
  rfl
 refine ⟨rfl, ?_⟩
 replace S := S.out
 rw [HBS.out] at S
 exact S.tail.tail.tail
theorem rone_ok (S : Sep w Rs W) (i : Nat) (hi : Rs[i]? = some (refR h H)) (x y : V) (r : Bool) (hr : H.oneB x y = r) : Calls Tryz.prog 118 #[.pointer (some ⟨h, 0, none⟩), .agg #[.int .i64 x.kind, .int .i64 x.n, .string x.s], .agg #[.int .i64 y.kind, .int .i64 y.n, .string y.s]] W fun e W' => e = .returned (.bool r) ∧ Sep w Rs W' := by
 obtain ⟨kx, hkx⟩ : ∃ k, H.kind x = k := ⟨_, rfl⟩
 obtain ⟨ky, hky⟩ : ∃ k, H.kind y = k := ⟨_, rfl⟩
 have hv : r = if kx = 0 ∧ ky = 0 then decide (x = y) else decide (kx ≠ 0) && (decide (ky ≠ 0) && decide (x.n = y.n)) := by rw [← hr]; unfold HeapM.oneB; rw [hkx, hky]
 have HKX := Lib.hid hkx
 have HKY := Lib.hid hky
 have HV := Lib.hid hv
 clear hr hkx hky hv
 obtain ⟨b, hb⟩ : ∃ gx_, (W.heap.size) = gx_ := ⟨_, rfl⟩
 replace S := ((S.alloc (.cells #[.int .i64 x.kind, .int .i64 x.n, .string x.s] 24)).alloc (.cells #[.int .i64 y.kind, .int .i64 y.n, .string y.s] 24))
 simp only [World.size_alloc, hb] at S
 obtain ⟨bA, hbs⟩ : ∃ l, l = boxV (b + 1) y :: boxV b x :: Rs := ⟨_, rfl⟩
 have HBS := Lib.hid hbs
 replace S := enterP (w := w) (all := [boxV (b + 1) y, boxV b x]) (E := []) (B := [boxV (b + 1) y, boxV b x]) (Rs := Rs) S hbs (perm_of [0, 1] (by show (List.range' 0 2).Perm [0, 1]; decide) (by rfl))
 have C1 := baseC3 (w := w) (b := b + 1) hbs 0 rfl
 have C0 := baseC3 (w := w) (b := b) hbs 1 rfl
 clear hbs
 replace S := Lib.hid S
 go_enter Tryz.func118, Tryz.ntmps118
 go_upto_region 1 with fail
 try simp only [World.size_alloc, hb]
 clear hb
 have KX : QuietC w bA 60 #[hpV h, agV x] (.int .i64 kx) := Lib.hid fun W Q T => by
  rw [HBS.out] at T ⊢
  exact rkind_at T (Q.length + 2 + i) (atI2 hi) x kx HKX.out
 have KY : QuietC w bA 60 #[hpV h, agV y] (.int .i64 ky) := Lib.hid fun W Q T => by
  rw [HBS.out] at T ⊢
  exact rkind_at T (Q.length + 2 + i) (atI2 hi) y ky HKY.out
 by_cases hx : kx ≠ 0
 ·
  by_cases hy : ky ≠ 0
  ·
   have zx : (kx != 0) = true := by simpa using hx
   have zy : (ky != 0) = true := by simpa using hy
   have HZ := Lib.hid (And.intro hx hy)
   clear hx hy
   refine regionL (E := []) (base := bA) S.out ?_
   clear S
   refine qa ?_
   refine qc C0 ?_
   refine qk KX ?_
   iterate 2 refine qa ?_
   iterate 4 refine qz ?_
   refine qa ?_
   refine doneL (h := fun w1 S => ?_)
   replace S := Lib.hid S
   obtain ⟨e, he⟩ : ∃ e, e = (x.n == y.n) := ⟨_, rfl⟩
   have HE := Lib.hid he
   clear he
   obtain rfl : r = e := by rw [HV.out, if_neg (fun q => HZ.out.1 q.1), decide_eq_true HZ.out.1, decide_eq_true HZ.out.2, HE.out]; by_cases hn : x.n = y.n <;> simp [hn]
   go_upto_region 2 with fail
   refine regionL (E := []) (base := bA) S.out ?_
   clear S
   refine qa ?_
   refine qc C0 ?_
   refine qk KX ?_
   iterate 3 refine qa ?_
   refine qc C1 ?_
   refine qk KY ?_
   iterate 4 refine qa ?_
   refine qc C0 ?_
   refine qa ?_
   refine qc C1 ?_
   refine qa (v := .bool r) (hy := fun E Wx hSw => by (go_simp; rw [← HE.out]; exact ⟨rfl, hSw⟩)) (h := ?_)
   iterate 2 refine qa ?_
   refine doneL (h := fun w2 S => ?_)
   replace S := Lib.hid S
   go_wp2
   refine bodyPost_ret (v := .bool r) ?_ ?_ ?_
   ·
    simp [results, Tryz.results118, go_sem]
   ·
    rfl
   refine ⟨rfl, ?_⟩
   replace S := S.out
   rw [HBS.out] at S
   exact S.tail.tail
  ·
   have zx : (kx != 0) = true := by simpa using hx
   have zy : (ky != 0) = false := by simpa using hy
   have HZ := Lib.hid (And.intro hx hy)
   clear hx hy
   go_upto_region 1 with fail
   refine regionL (E := []) (base := bA) S.out ?_
   clear S
   refine qa ?_
   refine qc C0 ?_
   refine qk KX ?_
   iterate 2 refine qa ?_
   iterate 4 refine qz ?_
   refine qa ?_
   refine doneL (h := fun w3 S => ?_)
   replace S := Lib.hid S
   obtain rfl : r = false := by rw [HV.out, if_neg (fun q => HZ.out.1 q.1), decide_eq_false HZ.out.2]; simp
   go_upto_region 2 with fail
   refine regionL (E := []) (base := bA) S.out ?_
   clear S
   refine qa ?_
   refine qc C0 ?_
   refine qk KX ?_
   iterate 3 refine qa ?_
   refine qc C1 ?_
   refine qk KY ?_
   iterate 3 refine qa ?_
   iterate 5 refine qz ?_
   iterate 2 refine qa ?_
   refine doneL (h := fun w4 S => ?_)
   replace S := Lib.hid S
   go_wp2
   refine bodyPost_ret (v := .bool false) ?_ ?_ ?_
   ·
    simp [results, Tryz.results118, go_sem]
   ·
    rfl
   refine ⟨rfl, ?_⟩
   replace S := S.out
   rw [HBS.out] at S
   exact S.tail.tail
 ·
  by_cases hy : ky ≠ 0
  ·
   have zx : (kx != 0) = false := by simpa using hx
   have zy : (ky != 0) = true := by simpa using hy
   have HZ := Lib.hid (And.intro hx hy)
   clear hx hy
   go_upto_region 1 with fail
   refine regionL (E := []) (base := bA) S.out ?_
   clear S
   refine qa ?_
   refine qc C0 ?_
   refine qk KX ?_
   iterate 3 refine qa ?_
   refine qc C1 ?_
   refine qk KY ?_
   iterate 2 refine qa ?_
   refine doneL (h := fun w5 S => ?_)
   replace S := Lib.hid S
   obtain rfl : r = false := by rw [HV.out, if_neg (fun q => HZ.out.2 q.2), decide_eq_false HZ.out.1]; simp
   go_upto_region 2 with fail
   refine regionL (E := []) (base := bA) S.out ?_
   clear S
   refine qa ?_
   refine qc C0 ?_
   refine qk KX ?_
   iterate 2 refine qa ?_
   iterate 4 refine qz ?_
   iterate 2 refine qa ?_
   iterate 5 refine qz ?_
   iterate 2 refine qa ?_
   refine doneL (h := fun w6 S => ?_)
   replace S := Lib.hid S
   go_wp2
   refine bodyPost_ret (v := .bool false) ?_ ?_ ?_
   ·
    simp [results, Tryz.results118, go_sem]
   ·
    rfl
   refine ⟨rfl, ?_⟩
   replace S := S.out
   rw [HBS.out] at S
   exact S.tail.tail
  ·
   have zx : (kx != 0) = false := by simpa using hx
   have zy : (ky != 0) = false := by simpa using hy
   have HZ := Lib.hid (show kx = 0 ∧ ky = 0 from ⟨by omega, by omega⟩)
   clear hx hy
   go_upto_region 1 with fail
   refine regionL (E := []) (base := bA) S.out ?_
   clear S
   refine qa ?_
   refine qc C0 ?_
   refine qk KX ?_
   iterate 3 refine qa ?_
   refine qc C1 ?_
   refine qk KY ?_
   iterate 2 refine qa ?_
   refine doneL (h := fun w7 S => ?_)
   replace S := Lib.hid S
   obtain rfl : r = decide (x = y) := by rw [HV.out, if_pos HZ.out]
   go_upto_region 3 with fail
   refine regionL (E := []) (base := bA) S.out ?_
   clear S
   refine qc C0 ?_
   refine qc C1 ?_
   refine qa (v := .bool (decide (x = y))) (hy := fun E Wx hSw => by (go_simp; rw [eqV_ifs Wx (b := decide (x = y)) rfl]; exact ⟨rfl, hSw⟩)) (h := ?_)
   refine qa ?_
   refine doneL (h := fun w8 S => ?_)
   replace S := Lib.hid S
   go_wp2
   refine bodyPost_ret (v := .bool (decide (x = y))) ?_ ?_ ?_
   ·
    simp [results, Tryz.results118, go_sem]
   ·
    rfl
   refine ⟨rfl, ?_⟩
   replace S := S.out
   rw [HBS.out] at S
   exact S.tail.tail
theorem rin_str (S : Sep w Rs W) (i : Nat) (hi : Rs[i]? = some (refR h H)) (x y : V) (hx : x.kind = 3) (hy : y.kind = 3) (hsz : y.s.size ≤ 9223372036854775806 ∧ x.s.size ≤ maxLen) : Calls Tryz.prog 119 #[.pointer (some ⟨h, 0, none⟩), .agg #[.int .i64 x.kind, .int .i64 x.n, .string x.s], .agg #[.int .i64 y.kind, .int .i64 y.n, .string y.s]] W fun e W' => e = .returned (.tuple #[.bool (decide (0 ≤ Lib.index y.s.data.toList x.s.data.toList)), excZ]) ∧ Sep w Rs W' := by
 have e1 : (y.kind == 3) = true := by simp [hy]
 have e2 : (x.kind == 3) = true := by simp [hx]
 obtain ⟨n, hn⟩ : ∃ n, n = Lib.index y.s.data.toList x.s.data.toList := ⟨_, rfl⟩
 rw [← hn]
 have HN := Lib.hid hn
 have HE := Lib.hid (And.intro e1 e2)
 have HSZ := Lib.hid hsz
 clear hn hx hy hsz e1 e2
 obtain ⟨b, hb⟩ : ∃ gx_, (W.heap.size) = gx_ := ⟨_, rfl⟩
 replace S := (((S.alloc (.cells #[.int .i64 x.kind, .int .i64 x.n, .string x.s] 24)).alloc (.cells #[.int .i64 y.kind, .int .i64 y.n, .string y.s] 24)).alloc (.cells #[.string ⟨#[]⟩, .int .i64 0, .int .i64 0, .string ⟨#[]⟩, .bool false] 33))
 simp only [World.size_alloc, hb] at S
 obtain ⟨bA, hbs⟩ : ∃ l, l = boxV (b + 1) y :: boxV b x :: Rs := ⟨_, rfl⟩
 have HBS := Lib.hid hbs
 replace S := enterP (w := w) (all := [boxE (b + 1 + 1), boxV (b + 1) y, boxV b x]) (E := [boxE (b + 1 + 1)]) (B := [boxV (b + 1) y, boxV b x]) (Rs := Rs) S hbs (perm_of [0, 1, 2] (by show (List.range' 0 3).Perm [0, 1, 2]; decide) (by rfl))
 have C1 := baseC3 (w := w) (b := b + 1) hbs 0 rfl
 have C0 := baseC3 (w := w) (b := b) hbs 1 rfl
 clear hbs
 replace S := Lib.hid S
 go_enter Tryz.func119, Tryz.ntmps119
 go_upto_region 1 with fail
 try simp only [World.size_alloc, hb]
 clear hb
 refine regionL (E := [boxE (b + 1 + 1)]) (base := bA) S.out ?_
 clear S
 refine qa ?_
 refine qc C1 ?_
 refine qa (v := .bool true) (hy := fun E Wx hSw => by (go_simp; rw [HE.out.1]; exact ⟨rfl, hSw⟩)) (h := ?_)
 iterate 2 refine qa ?_
 refine qc C0 ?_
 refine qa (v := .bool true) (hy := fun E Wx hSw => by (go_simp; rw [HE.out.2]; exact ⟨rfl, hSw⟩)) (h := ?_)
 refine qa ?_
 refine doneL (h := fun w1 S => ?_)
 replace S := Lib.hid S
 have KF : QuietC w bA 163 #[.string y.s, .string x.s] (.int .i64 n) := Lib.hid fun W Q T => by
  have hh := ref_find y.s x.s W HSZ.out.1 HSZ.out.2
  rw [← HN.out] at hh
  exact hh.mono fun e W' ⟨e1, e2⟩ => ⟨e1, by rw [← e2]; exact T⟩
 go_upto_region 2 with fail
 refine regionL (E := [boxE (b + 1 + 1)]) (base := bA) S.out ?_
 clear S
 refine qa ?_
 refine qc C1 ?_
 refine qa ?_
 refine qc C0 ?_
 refine qk KF ?_
 iterate 3 refine qa ?_
 refine qd undef [boxE (b + 1 + 1)] (h1 := fun Wx hSw => by (have hz := hSw.box (b := (b + 1 + 1)) (o := objE) 0 rfl; refine useZ5 hz fun z0 z1 z2 z3 z4 y0 y1 y2 y3 y4 => ?_; go_simp; exact ⟨rfl, hSw.set5 0 rfl (.string ⟨#[]⟩) (.int .i64 0) (.int .i64 0) (.string ⟨#[]⟩) (.bool false)⟩)) (h2 := ?_)
 refine doneL (h := fun w2 S => ?_)
 refine useR5 (S.box (b := b + 1 + 1) (o := objE) 0 rfl) fun r0 r1 r2 r3 r4 => ?_
 replace S := Lib.hid S
 repeat (first | go_values | go_skip | go_guarded | go_step)
 refine bodyPost_ret (v := .tuple #[.bool (decide (0 ≤ n)), excZ]) ?_ ?_ ?_
 ·
  simp [results, Tryz.results119, go_sem, r0, r1, r2, r3, r4]
 ·
  rfl
 refine ⟨rfl, ?_⟩
 replace S := S.out
 rw [HBS.out] at S
 exact S.tail.tail.tail
theorem rin_row (S : Sep w Rs W) (i : Nat) (hi : Rs[i]? = some (refR h H)) {N : Nat} (G : H.Good N) (hN : N ≤ 4000000) (x y : V) (hs : ¬ (x.kind = 3 ∧ y.kind = 3)) (hr : H.rowB y = true) : Calls Tryz.prog 119 #[.pointer (some ⟨h, 0, none⟩), .agg #[.int .i64 x.kind, .int .i64 x.n, .string x.s], .agg #[.int .i64 y.kind, .int .i64 y.n, .string y.s]] W fun e W' => e = .returned (.tuple #[.bool ((H.inL x (H.items y)).getD false), excN (nmS (H.inL x (H.items y)))]) ∧ Sep w Rs W' := by
 obtain ⟨p1, hp1⟩ : ∃ b, b = (y.kind == 3) := ⟨_, rfl⟩
 obtain ⟨p2, hp2⟩ : ∃ b, b = (x.kind == 3) := ⟨_, rfl⟩
 have hps : (p1 && p2) = false := by rw [hp1, hp2]; by_cases a : y.kind = 3 <;> by_cases c : x.kind = 3 <;> simp_all
 have HP_ := Lib.hid (And.intro hp1 (And.intro hp2 hps))
 clear hs hp1 hp2 hps
 obtain ⟨rk, hrk⟩ : ∃ k, (if H.rowB y = true then H.kind y else 0) = k := ⟨_, rfl⟩
 have HRK := Lib.hid hrk
 have hr0 : (rk != 0) = true := by have := HeapM.rowB_kind hr; rw [← hrk, if_pos hr]; simp; omega
 obtain ⟨Y1, hY1⟩ : ∃ l, l = H.items y := ⟨_, rfl⟩
 rw [← hY1]
 have hgy : Y1.length ≤ N := by rw [hY1]; exact G.items y
 have hyb : (Y1.length : Int) ≤ 4000000 := by omega
 obtain ⟨rr, hrr⟩ : ∃ r, r = H.inL x Y1 := ⟨_, rfl⟩
 rw [← hrr]
 have HRR := Lib.hid hrr
 have HY := Lib.hid hY1
 clear hrk hr hY1 hgy hrr
 obtain ⟨b, hb⟩ : ∃ gx_, (W.heap.size) = gx_ := ⟨_, rfl⟩
 replace S := (((S.alloc (.cells #[.int .i64 x.kind, .int .i64 x.n, .string x.s] 24)).alloc (.cells #[.int .i64 y.kind, .int .i64 y.n, .string y.s] 24)).alloc (.cells #[.string ⟨#[]⟩, .int .i64 0, .int .i64 0, .string ⟨#[]⟩, .bool false] 33))
 simp only [World.size_alloc, hb] at S
 obtain ⟨bA, hbs⟩ : ∃ l, l = boxV (b + 1) y :: boxV b x :: Rs := ⟨_, rfl⟩
 have HBS := Lib.hid hbs
 replace S := enterP (w := w) (all := [boxE (b + 1 + 1), boxV (b + 1) y, boxV b x]) (E := [boxE (b + 1 + 1)]) (B := [boxV (b + 1) y, boxV b x]) (Rs := Rs) S hbs (perm_of [0, 1, 2] (by show (List.range' 0 3).Perm [0, 1, 2]; decide) (by rfl))
 have C1 := baseC3 (w := w) (b := b + 1) hbs 0 rfl
 have C0 := baseC3 (w := w) (b := b) hbs 1 rfl
 clear hbs
 replace S := Lib.hid S
 go_enter Tryz.func119, Tryz.ntmps119
 go_upto_region 1 with fail
 try simp only [World.size_alloc, hb]
 clear hb
 go_upto_region 1 with fail
 go_cut [21] (fun s21 wx => s21 = .bool false ∧ Sep w ([boxE (b + 1 + 1)] ++ bA) wx)
 case first =>
  cases p1 with
  | false =>
   refine regionL (E := [boxE (b + 1 + 1)]) (base := bA) S.out ?_
   clear S
   refine qa ?_
   refine qc C1 ?_
   refine qa (v := .bool false) (hy := fun E Wx hSw => by (go_simp; rw [← HP_.out.1]; exact ⟨rfl, hSw⟩)) (h := ?_)
   refine qa ?_
   iterate 3 refine qz ?_
   refine qa ?_
   refine doneL (h := fun w1 S => ?_)
   replace S := Lib.hid S
   go_wp2_with fail
   go_meet
   exact ⟨rfl, S.out⟩
  | true =>
   have hp2f : p2 = false := by have := HP_.out.2.2; simpa using this
   refine regionL (E := [boxE (b + 1 + 1)]) (base := bA) S.out ?_
   clear S
   refine qa ?_
   refine qc C1 ?_
   refine qa (v := .bool true) (hy := fun E Wx hSw => by (go_simp; rw [← HP_.out.1]; exact ⟨rfl, hSw⟩)) (h := ?_)
   iterate 2 refine qa ?_
   refine qc C0 ?_
   refine qa (v := .bool false) (hy := fun E Wx hSw => by (go_simp; rw [← HP_.out.2.1, hp2f]; exact ⟨rfl, hSw⟩)) (h := ?_)
   refine qa ?_
   refine doneL (h := fun w2 S => ?_)
   replace S := Lib.hid S
   go_wp2_with fail
   go_meet
   exact ⟨rfl, S.out⟩
 case rest =>
  obtain ⟨rfl, S⟩ := hcut
  replace S := Lib.hid S
  have KR : QuietC w bA 58 #[hpV h, agV y] (.int .i64 rk) := Lib.hid fun W Q T => by
   rw [HBS.out] at T ⊢
   exact rrow_ok T (Q.length + 2 + i) (atI2 hi) y rk HRK.out
  go_upto_region 3 with fail
  refine regionL (E := [boxE (b + 1 + 1)]) (base := bA) S.out ?_
  clear S
  refine qa ?_
  refine qc C1 ?_
  refine qk KR ?_
  refine qa ?_
  refine doneL (h := fun w3 S => ?_)
  replace S := Lib.hid S
  clear KR
  have KI : Hid (∀ W (Q : List Res), Sep w (Q ++ bA) W → Calls Tryz.prog 61 #[.pointer (some ⟨h, 0, none⟩), .agg #[.int .i64 y.kind, .int .i64 y.n, .string y.s]] W fun e W' => ∃ a c, e = .returned (.slice a Y1.length c) ∧ Sep w (valsR (.slice a Y1.length c) Y1 :: (Q ++ bA)) W') := Lib.hid fun W Q T => by
   rw [HBS.out] at T ⊢
   exact ritems_at T (Q.length + 2 + i) (atI2 hi) G hN y Y1 HY.out.symm
  go_upto_region 4 with fail
  refine regionL (E := [emptyR, boxE (b + 1 + 1)]) (base := bA) (Sep.putE S.out) ?_
  clear S
  refine qa ?_
  refine qc C1 ?_
  refine stepL (fun v E1 => ∃ (a_4_1 : Option Addr) (c_4_1 : Nat), v = .slice a_4_1 Y1.length c_4_1 ∧ E1 = [valsR (.slice a_4_1 Y1.length c_4_1) Y1, boxE (b + 1 + 1)]) (h1 := fun Wx hSw => by (go_simp; refine symCallN ?_; exact (KI.out _ _ hSw).mono fun e W' ⟨a, c, e1, e2⟩ => ⟨_, _, e1, ⟨a, c, rfl, rfl⟩, e2.into 0 rfl⟩)) (h2 := fun v E1 hvE => ?_)
  obtain ⟨a_4_1, c_4_1, rfl, rfl⟩ := hvE; simp only [Act.put, pa]; try dsimp only [List.set]
  refine qa ?_
  refine doneL (h := fun w4 S => ?_)
  replace S := Lib.hid S
  clear KI
  obtain ⟨bK, hnb⟩ : ∃ l, l = [valsR (.slice a_4_1 Y1.length c_4_1) Y1] ++ bA := ⟨_, rfl⟩
  have HBbK := Lib.hid hnb
  replace S : Sep w ([boxE (b + 1 + 1)] ++ bK) w4 := by
   rw [hnb]
   refine S.out.perm ?_
   exact (show ([valsR (.slice a_4_1 Y1.length c_4_1) Y1, boxE (b + 1 + 1)] ++ bA).Perm ([boxE (b + 1 + 1)] ++ ([valsR (.slice a_4_1 Y1.length c_4_1) Y1] ++ bA)) from by rw [← List.append_assoc]; exact List.Perm.append_right bA (by exact perm_of [1, 0] (by show (List.range' 0 2).Perm [1, 0]; decide) (by rfl)))
  clear hnb
  replace S := Lib.hid S
  have C1_bK := liftC HBbK C1
  have C0_bK := liftC HBbK C0
  go_wp2
  go_loopw [9] (fun s9 wr => ∃ k : Nat, k ≤ Y1.length ∧ s9 = .int .i64 k ∧ Hid (∀ q ∈ Y1.take k, H.sameF 30 q x = some false) ∧ Sep w ([boxE (b + 1 + 1)] ++ bK) wr) (fun s9 _ => Y1.length - (intOf s9).toNat)
  case atStart => exact ⟨0, Nat.zero_le _, rfl, Lib.hid (by simp), S.out⟩
  case round =>
   obtain ⟨k, hk, rfl, HA, S⟩ := hrel
   replace S := Lib.hid S
   by_cases hlt : k < Y1.length
   ·
    have hlti : (k : Int) < Y1.length := by omega
    obtain ⟨z, hz⟩ : ∃ z, Y1[k]? = some z := ⟨Y1[k], by simp [hlt]⟩
    have T := S.out
    rw [HBbK.out] at T
    obtain ⟨g1, og, hag, -⟩ := ra_three (T.row 1 rfl).sees' hz
    clear T
    subst hag
    obtain ⟨q, hq⟩ : ∃ q, q = H.sameF 30 z x := ⟨_, rfl⟩
    have HZ := Lib.hid hz
    have HLT := Lib.hid hlt
    have HQ := Lib.hid hq
    clear hz hlt hq hk
    have CR : Hid (∀ W (Q : List Res), Sep w (Q ++ bK) W → W.cell? ⟨g1, og + k * 3, none⟩ = some (.int .i64 z.kind) ∧ W.cell? ⟨g1, og + k * 3 + 1, none⟩ = some (.int .i64 z.n) ∧ W.cell? ⟨g1, og + k * 3 + 2, none⟩ = some (.string z.s)) := Lib.hid fun W Q T => by
     rw [HBbK.out] at T
     exact raThree T (Q.length + 0) (atR rfl) HZ.out
    obtain ⟨bq, hbq⟩ : ∃ b, b = q.getD false := ⟨_, rfl⟩
    obtain ⟨nq, hnq⟩ : ∃ n, n = nmS q := ⟨_, rfl⟩
    have HBQ := Lib.hid hbq
    have HNQ := Lib.hid hnq
    clear hbq hnq
    have KS_ : QuietC w bA 28 #[hpV h, agV z, agV x] (.tuple #[.bool bq, excN nq]) := Lib.hid fun W Q T => by
     rw [HBS.out] at T ⊢
     exact (by have hh := rsameOp_ok T (Q.length + 2 + i) (atI2 hi) G hN z x; rw [← HQ.out, ← HBQ.out, ← HNQ.out] at hh; exact hh)
    replace KS_ := (liftK HBbK KS_)
    go_upto_region 8 with fail
    refine regionP 10 3 (E := [emptyR, boxE (b + 1 + 1)]) (base := bK) (Sep.putE S.out) ?_
    clear S
    iterate 4 refine qp ?_
    refine qpc CR ?_
    refine qpc C0_bK ?_
    refine qpk KS_ ?_
    iterate 3 refine qp ?_
    refine endP ?_
    refine readyS [10] ?_
    refine allocS 0 rfl (fun q => .pointer (some ⟨q, 0, none⟩)) (.cells #[.string ⟨#[]⟩, .int .i64 0, .int .i64 0, .string ⟨#[]⟩, .bool false] 33) (h1 := fun Wx => by go_simp) (h2 := fun qe111 => ?_) (hs := nilS); simp only [Act.put, pa]; try dsimp only [List.set]
    try simp only [List.set_cons_zero, List.set_cons_succ]
    refine qs 11 ?_
    refine readyS [12] ?_
    refine detS undef [boxN qe111 nq, boxE (b + 1 + 1)] (h1 := fun Wx hSw => by (have hz := hSw.box (b := qe111) (o := objE) 0 rfl; refine useZ5 hz fun z0 z1 z2 z3 z4 y0 y1 y2 y3 y4 => ?_; go_simp; exact ⟨rfl, hSw.set5 0 rfl (.string nq) (.int .i64 0) (.int .i64 0) (.string ⟨#[]⟩) (.bool false)⟩)) (h2 := ?_) (hs := nilS); simp only [Act.put, pa]; try dsimp only [List.set]
    refine doneS (h := fun w5 S => ?_)
    replace S := Lib.hid S
    match q, HQ, HBQ, HNQ with
    | some true, HQ, HBQ, HNQ =>
     obtain rfl : bq = true := HBQ.out
     obtain rfl : nq = ⟨#[]⟩ := HNQ.out
     clear HBQ HNQ
     go_upto_region 9 with fail
     refine regionL (E := [boxE qe111, boxE (b + 1 + 1)]) (base := bK) S.out ?_
     clear S
     refine qd _ [boxE qe111, boxE (b + 1 + 1)] (h1 := fun Wx hSw => by (have hz := hSw.box (b := qe111) (o := objE) 0 rfl; have z0 := cellAt hz 0 (v := .string ⟨#[]⟩) rfl; have z1 := cellAt hz 1 (v := .int .i64 0) rfl; have z2 := cellAt hz 2 (v := .int .i64 0) rfl; have z3 := cellAt hz 3 (v := .string ⟨#[]⟩) rfl; have z4 := cellAt hz 4 (v := .bool false) rfl; go_simp; exact ⟨rfl, hSw⟩)) (h2 := ?_)
     iterate 5 refine qa ?_
     refine doneL (h := fun w6 S => ?_)
     replace S := Lib.hid S
     have hv : rr = some true := by rw [HRR.out, HQ.out]; exact inL_stop HZ.out HA.out (by rw [← HQ.out]; simp)
     subst hv
     go_upto_region 10 with fail
     refine regionP 1 3 (E := [boxE qe111, boxE (b + 1 + 1)]) (base := bK) S.out ?_
     clear S
     refine qp ?_
     refine endP ?_
     refine qs 2 ?_
     refine readyS [1] ?_
     refine detS _ [boxE qe111, boxE (b + 1 + 1)] (h1 := fun Wx hSw => by (have hz := hSw.box (b := qe111) (o := objE) 0 rfl; have z0 := cellAt hz 0 (v := .string ⟨#[]⟩) rfl; have z1 := cellAt hz 1 (v := .int .i64 0) rfl; have z2 := cellAt hz 2 (v := .int .i64 0) rfl; have z3 := cellAt hz 3 (v := .string ⟨#[]⟩) rfl; have z4 := cellAt hz 4 (v := .bool false) rfl; go_simp; exact ⟨rfl, hSw⟩)) (h2 := ?_) (hs := nilS); simp only [Act.put, pa]; try dsimp only [List.set]
     refine readyS [3] ?_
     refine detS undef [boxE qe111, boxE (b + 1 + 1)] (h1 := fun Wx hSw => by (have hz := hSw.box (b := (b + 1 + 1)) (o := objE) 1 rfl; refine useZ5 hz fun z0 z1 z2 z3 z4 y0 y1 y2 y3 y4 => ?_; go_simp; exact ⟨rfl, hSw.set5 1 rfl (.string ⟨#[]⟩) (.int .i64 0) (.int .i64 0) (.string ⟨#[]⟩) (.bool false)⟩)) (h2 := ?_) (hs := nilS); simp only [Act.put, pa]; try dsimp only [List.set]
     refine doneS (h := fun w7 S => ?_)
     refine useR5 (S.box (b := b + 1 + 1) (o := objE) 1 rfl) fun r0 r1 r2 r3 r4 => ?_
     replace S := Lib.hid S
     repeat (first | go_values | go_skip | go_guarded | go_step)
     refine bodyPost_ret (v := .tuple #[.bool true, excN ⟨#[]⟩]) ?_ ?_ ?_
     ·
      simp [results, Tryz.results119, go_sem, r0, r1, r2, r3, r4]
     ·
      rfl
     refine ⟨rfl, ?_⟩
     replace S := S.out
     rw [HBbK.out] at S
     rw [HBS.out] at S
     exact S.tail.tail.tail.tail.tail
    | some false, HQ, HBQ, HNQ =>
     obtain rfl : bq = false := HBQ.out
     obtain rfl : nq = ⟨#[]⟩ := HNQ.out
     clear HBQ HNQ
     go_upto_region 9 with fail
     refine regionL (E := [boxE qe111, boxE (b + 1 + 1)]) (base := bK) S.out ?_
     clear S
     refine qd _ [boxE qe111, boxE (b + 1 + 1)] (h1 := fun Wx hSw => by (have hz := hSw.box (b := qe111) (o := objE) 0 rfl; have z0 := cellAt hz 0 (v := .string ⟨#[]⟩) rfl; have z1 := cellAt hz 1 (v := .int .i64 0) rfl; have z2 := cellAt hz 2 (v := .int .i64 0) rfl; have z3 := cellAt hz 3 (v := .string ⟨#[]⟩) rfl; have z4 := cellAt hz 4 (v := .bool false) rfl; go_simp; exact ⟨rfl, hSw⟩)) (h2 := ?_)
     iterate 5 refine qa ?_
     refine doneL (h := fun w8 S => ?_)
     replace S := Lib.hid S
     have hi1 : IntKind.i64.wrap ((k : Int) + 1) = (k : Int) + 1 := IntWalk.i64_in _ (by omega)
     replace S := S.out
     replace S := Lib.hid (S.sub (Qs := [boxE (b + 1 + 1)] ++ bK) (List.Sublist.cons _ (List.Sublist.cons_cons _ (List.Sublist.refl _))))
     go_wp2
     exact ⟨⟨k + 1, HLT.out, by go_num, Lib.hid (ra_snoc HZ.out HA.out HQ.out.symm), S.out⟩, by have := HLT.out; simp [intOf]; omega⟩
    | none, HQ, HBQ, HNQ =>
     obtain rfl : bq = false := HBQ.out
     obtain rfl : nq = recursionError := HNQ.out
     clear HBQ HNQ
     go_upto_region 9 with fail
     refine regionL (E := [boxN qe111 recursionError, boxE (b + 1 + 1)]) (base := bK) S.out ?_
     clear S
     refine qd _ [boxN qe111 recursionError, boxE (b + 1 + 1)] (h1 := fun Wx hSw => by (have hz := hSw.box (b := qe111) (o := objN recursionError) 0 rfl; have z0 := cellAt hz 0 (v := .string recursionError) rfl; have z1 := cellAt hz 1 (v := .int .i64 0) rfl; have z2 := cellAt hz 2 (v := .int .i64 0) rfl; have z3 := cellAt hz 3 (v := .string ⟨#[]⟩) rfl; have z4 := cellAt hz 4 (v := .bool false) rfl; go_simp; exact ⟨rfl, hSw⟩)) (h2 := ?_)
     iterate 3 refine qa ?_
     refine qz ?_
     refine qa ?_
     refine doneL (h := fun w9 S => ?_)
     replace S := Lib.hid S
     have hv : rr = none := by rw [HRR.out, HQ.out]; exact inL_stop HZ.out HA.out (by rw [← HQ.out]; simp)
     subst hv
     go_upto_region 10 with fail
     refine regionP 1 3 (E := [boxN qe111 recursionError, boxE (b + 1 + 1)]) (base := bK) S.out ?_
     clear S
     refine qp ?_
     refine endP ?_
     refine qs 2 ?_
     refine readyS [1] ?_
     refine detS _ [boxN qe111 recursionError, boxE (b + 1 + 1)] (h1 := fun Wx hSw => by (have hz := hSw.box (b := qe111) (o := objN recursionError) 0 rfl; have z0 := cellAt hz 0 (v := .string recursionError) rfl; have z1 := cellAt hz 1 (v := .int .i64 0) rfl; have z2 := cellAt hz 2 (v := .int .i64 0) rfl; have z3 := cellAt hz 3 (v := .string ⟨#[]⟩) rfl; have z4 := cellAt hz 4 (v := .bool false) rfl; go_simp; exact ⟨rfl, hSw⟩)) (h2 := ?_) (hs := nilS); simp only [Act.put, pa]; try dsimp only [List.set]
     refine readyS [3] ?_
     refine detS undef [boxN qe111 recursionError, boxN (b + 1 + 1) recursionError] (h1 := fun Wx hSw => by (have hz := hSw.box (b := (b + 1 + 1)) (o := objE) 1 rfl; refine useZ5 hz fun z0 z1 z2 z3 z4 y0 y1 y2 y3 y4 => ?_; go_simp; exact ⟨rfl, hSw.set5 1 rfl (.string recursionError) (.int .i64 0) (.int .i64 0) (.string ⟨#[]⟩) (.bool false)⟩)) (h2 := ?_) (hs := nilS); simp only [Act.put, pa]; try dsimp only [List.set]
     refine doneS (h := fun w10 S => ?_)
     refine useR5 (S.box (b := b + 1 + 1) (o := objN recursionError) 1 rfl) fun r0 r1 r2 r3 r4 => ?_
     replace S := Lib.hid S
     repeat (first | go_values | go_skip | go_guarded | go_step)
     refine bodyPost_ret (v := .tuple #[.bool false, excN recursionError]) ?_ ?_ ?_
     ·
      simp [results, Tryz.results119, go_sem, r0, r1, r2, r3, r4]
     ·
      rfl
     refine ⟨rfl, ?_⟩
     replace S := S.out
     rw [HBbK.out] at S
     rw [HBS.out] at S
     exact S.tail.tail.tail.tail.tail
   ·
    obtain rfl : k = Y1.length := by omega
    have hno : ¬ ((Y1.length : Int) < Y1.length) := by omega
    have hv : rr = some false := by rw [HRR.out]; exact inL_all (by have := HA.out; rwa [List.take_length] at this)
    subst hv
    clear hlt hk HA
    go_upto_region 11 with fail
    refine regionL (E := [boxE (b + 1 + 1)]) (base := bK) S.out ?_
    clear S
    iterate 2 refine qa ?_
    refine qd undef [boxE (b + 1 + 1)] (h1 := fun Wx hSw => by (have hz := hSw.box (b := (b + 1 + 1)) (o := objE) 0 rfl; refine useZ5 hz fun z0 z1 z2 z3 z4 y0 y1 y2 y3 y4 => ?_; go_simp; exact ⟨rfl, hSw.set5 0 rfl (.string ⟨#[]⟩) (.int .i64 0) (.int .i64 0) (.string ⟨#[]⟩) (.bool false)⟩)) (h2 := ?_)
    refine doneL (h := fun w11 S => ?_)
    refine useR5 (S.box (b := b + 1 + 1) (o := objE) 0 rfl) fun r0 r1 r2 r3 r4 => ?_
    replace S := Lib.hid S
    repeat (first | go_values | go_skip | go_guarded | go_step)
    refine bodyPost_ret (v := .tuple #[.bool false, excZ]) ?_ ?_ ?_
    ·
     simp [results, Tryz.results119, go_sem, r0, r1, r2, r3, r4]
    ·
     rfl
    refine ⟨rfl, ?_⟩
    replace S := S.out
    rw [HBbK.out] at S
    rw [HBS.out] at S
    exact S.tail.tail.tail.tail
theorem rin_dict (S : Sep w Rs W) (i : Nat) (hi : Rs[i]? = some (refR h H)) (x y : V) (hs : ¬ (x.kind = 3 ∧ y.kind = 3)) (hr : H.rowB y = false) (hd : H.kind y = 3 ∧ x.isKey = true) : Calls Tryz.prog 119 #[.pointer (some ⟨h, 0, none⟩), .agg #[.int .i64 x.kind, .int .i64 x.n, .string x.s], .agg #[.int .i64 y.kind, .int .i64 y.n, .string y.s]] W fun e W' => e = .returned (.tuple #[.bool (H.get y x).isSome, excZ]) ∧ Sep w Rs W' := by
 obtain ⟨p1, hp1⟩ : ∃ b, b = (y.kind == 3) := ⟨_, rfl⟩
 obtain ⟨p2, hp2⟩ : ∃ b, b = (x.kind == 3) := ⟨_, rfl⟩
 have hps : (p1 && p2) = false := by rw [hp1, hp2]; by_cases a : y.kind = 3 <;> by_cases c : x.kind = 3 <;> simp_all
 have HP_ := Lib.hid (And.intro hp1 (And.intro hp2 hps))
 clear hs hp1 hp2 hps
 obtain ⟨rk, hrk⟩ : ∃ k, (if H.rowB y = true then H.kind y else 0) = k := ⟨_, rfl⟩
 have HRK := Lib.hid hrk
 have hr0 : (rk != 0) = false := by rw [← hrk, if_neg (by rw [hr]; decide)]; rfl
 obtain ⟨ky, hky⟩ : ∃ k, H.kind y = k := ⟨_, rfl⟩
 have HKY := Lib.hid hky
 have hk3 : (ky != 3) = false := by rw [← hky, hd.1]; decide
 have HKEY := Lib.hid hd.2
 obtain ⟨yv, hyv⟩ : ∃ v, (H.get y x).getD V.zero = v := ⟨_, rfl⟩
 obtain ⟨yr, hyr⟩ : ∃ v, (H.get y x).isSome = v := ⟨_, rfl⟩
 rw [hyr]
 have HYV := Lib.hid (And.intro hyv hyr)
 clear hyv hyr hd
 clear hrk hr hky
 obtain ⟨b, hb⟩ : ∃ gx_, (W.heap.size) = gx_ := ⟨_, rfl⟩
 replace S := (((S.alloc (.cells #[.int .i64 x.kind, .int .i64 x.n, .string x.s] 24)).alloc (.cells #[.int .i64 y.kind, .int .i64 y.n, .string y.s] 24)).alloc (.cells #[.string ⟨#[]⟩, .int .i64 0, .int .i64 0, .string ⟨#[]⟩, .bool false] 33))
 simp only [World.size_alloc, hb] at S
 obtain ⟨bA, hbs⟩ : ∃ l, l = boxV (b + 1) y :: boxV b x :: Rs := ⟨_, rfl⟩
 have HBS := Lib.hid hbs
 replace S := enterP (w := w) (all := [boxE (b + 1 + 1), boxV (b + 1) y, boxV b x]) (E := [boxE (b + 1 + 1)]) (B := [boxV (b + 1) y, boxV b x]) (Rs := Rs) S hbs (perm_of [0, 1, 2] (by show (List.range' 0 3).Perm [0, 1, 2]; decide) (by rfl))
 have C1 := baseC3 (w := w) (b := b + 1) hbs 0 rfl
 have C0 := baseC3 (w := w) (b := b) hbs 1 rfl
 clear hbs
 replace S := Lib.hid S
 go_enter Tryz.func119, Tryz.ntmps119
 go_upto_region 1 with fail
 try simp only [World.size_alloc, hb]
 clear hb
 go_upto_region 1 with fail
 go_cut [21] (fun s21 wx => s21 = .bool false ∧ Sep w ([boxE (b + 1 + 1)] ++ bA) wx)
 case first =>
  cases p1 with
  | false =>
   refine regionL (E := [boxE (b + 1 + 1)]) (base := bA) S.out ?_
   clear S
   refine qa ?_
   refine qc C1 ?_
   refine qa (v := .bool false) (hy := fun E Wx hSw => by (go_simp; rw [← HP_.out.1]; exact ⟨rfl, hSw⟩)) (h := ?_)
   refine qa ?_
   iterate 3 refine qz ?_
   refine qa ?_
   refine doneL (h := fun w1 S => ?_)
   replace S := Lib.hid S
   go_wp2_with fail
   go_meet
   exact ⟨rfl, S.out⟩
  | true =>
   have hp2f : p2 = false := by have := HP_.out.2.2; simpa using this
   refine regionL (E := [boxE (b + 1 + 1)]) (base := bA) S.out ?_
   clear S
   refine qa ?_
   refine qc C1 ?_
   refine qa (v := .bool true) (hy := fun E Wx hSw => by (go_simp; rw [← HP_.out.1]; exact ⟨rfl, hSw⟩)) (h := ?_)
   iterate 2 refine qa ?_
   refine qc C0 ?_
   refine qa (v := .bool false) (hy := fun E Wx hSw => by (go_simp; rw [← HP_.out.2.1, hp2f]; exact ⟨rfl, hSw⟩)) (h := ?_)
   refine qa ?_
   refine doneL (h := fun w2 S => ?_)
   replace S := Lib.hid S
   go_wp2_with fail
   go_meet
   exact ⟨rfl, S.out⟩
 case rest =>
  obtain ⟨rfl, S⟩ := hcut
  replace S := Lib.hid S
  have KR : QuietC w bA 58 #[hpV h, agV y] (.int .i64 rk) := Lib.hid fun W Q T => by
   rw [HBS.out] at T ⊢
   exact rrow_ok T (Q.length + 2 + i) (atI2 hi) y rk HRK.out
  go_upto_region 3 with fail
  refine regionL (E := [boxE (b + 1 + 1)]) (base := bA) S.out ?_
  clear S
  refine qa ?_
  refine qc C1 ?_
  refine qk KR ?_
  refine qa ?_
  refine doneL (h := fun w3 S => ?_)
  replace S := Lib.hid S
  clear KR
  have KK : QuietC w bA 60 #[hpV h, agV y] (.int .i64 ky) := Lib.hid fun W Q T => by
   rw [HBS.out] at T ⊢
   exact rkind_at T (Q.length + 2 + i) (atI2 hi) y ky HKY.out
  have KY : QuietC w bA 95 #[agV x] (.bool true) := Lib.hid fun W Q T => by
   have hh := rkey_ok W x
   rw [HKEY.out] at hh
   exact hh.mono fun e W' ⟨e1, e2⟩ => ⟨e1, T.later e2⟩
  go_upto_region 12 with fail
  refine regionL (E := [boxE (b + 1 + 1)]) (base := bA) S.out ?_
  clear S
  refine qa ?_
  refine qc C1 ?_
  refine qk KK ?_
  iterate 2 refine qa ?_
  refine qc C0 ?_
  refine qk KY ?_
  iterate 2 refine qa ?_
  refine doneL (h := fun w4 S => ?_)
  replace S := Lib.hid S
  have KG : QuietC w bA 81 #[hpV h, agV y, agV x] (.tuple #[.agg #[.int .i64 yv.kind, .int .i64 yv.n, .string yv.s], .bool yr]) := Lib.hid fun W Q T => by
   rw [HBS.out] at T ⊢
   exact rget_at T (Q.length + 2 + i) (atI2 hi) y x yv yr HYV.out.1 HYV.out.2
  go_upto_region 14 with fail
  refine regionL (E := [emptyR, boxE (b + 1 + 1)]) (base := bA) (Sep.putE S.out) ?_
  clear S
  refine qa ?_
  refine qc C1 ?_
  refine qc C0 ?_
  refine qk KG ?_
  iterate 3 refine qa ?_
  refine allocL 0 rfl (fun q => .pointer (some ⟨q, 0, none⟩)) (.cells #[.int .i64 0, .int .i64 0, .string ⟨#[]⟩] 24) (h1 := fun Wx => by go_simp) (h2 := fun qz121 => ?_); simp only [Act.put, pa]; try dsimp only [List.set]
  try simp only [List.set_cons_zero, List.set_cons_succ]
  refine qd undef [boxV qz121 yv, boxE (b + 1 + 1)] (h1 := fun Wx hSw => by (have hz := hSw.box (b := qz121) (o := objZ) 0 rfl; refine useZ3 hz fun z0 z1 z2 y0 y1 y2 => ?_; go_simp; exact ⟨rfl, hSw.set3 0 rfl (.int .i64 yv.kind) (.int .i64 yv.n) (.string yv.s)⟩)) (h2 := ?_)
  refine qa ?_
  refine doneL (h := fun w5 S => ?_)
  replace S := Lib.hid S
  go_upto_region 15 with fail
  refine regionL (E := [boxV qz121 yv, boxE (b + 1 + 1)]) (base := bA) S.out ?_
  clear S
  iterate 3 refine qa ?_
  refine qd undef [boxV qz121 yv, boxE (b + 1 + 1)] (h1 := fun Wx hSw => by (have hz := hSw.box (b := (b + 1 + 1)) (o := objE) 1 rfl; refine useZ5 hz fun z0 z1 z2 z3 z4 y0 y1 y2 y3 y4 => ?_; go_simp; exact ⟨rfl, hSw.set5 1 rfl (.string ⟨#[]⟩) (.int .i64 0) (.int .i64 0) (.string ⟨#[]⟩) (.bool false)⟩)) (h2 := ?_)
  refine doneL (h := fun w6 S => ?_)
  refine useR5 (S.box (b := b + 1 + 1) (o := objE) 1 rfl) fun r0 r1 r2 r3 r4 => ?_
  replace S := Lib.hid S
  repeat (first | go_values | go_skip | go_guarded | go_step)
  refine bodyPost_ret (v := .tuple #[.bool yr, excZ]) ?_ ?_ ?_
  ·
   simp [results, Tryz.results119, go_sem, r0, r1, r2, r3, r4]
  ·
   rfl
  refine ⟨rfl, ?_⟩
  replace S := S.out
  rw [HBS.out] at S
  exact S.tail.tail.tail.tail
theorem rin_no (S : Sep w Rs W) (i : Nat) (hi : Rs[i]? = some (refR h H)) (x y : V) (hs : ¬ (x.kind = 3 ∧ y.kind = 3)) (hr : H.rowB y = false) (hno : ¬ (H.kind y = 3 ∧ x.isKey = true)) : Calls Tryz.prog 119 #[.pointer (some ⟨h, 0, none⟩), .agg #[.int .i64 x.kind, .int .i64 x.n, .string x.s], .agg #[.int .i64 y.kind, .int .i64 y.n, .string y.s]] W fun e W' => e = .returned (.tuple #[.bool false, excN typeError]) ∧ Sep w Rs W' := by
 obtain ⟨p1, hp1⟩ : ∃ b, b = (y.kind == 3) := ⟨_, rfl⟩
 obtain ⟨p2, hp2⟩ : ∃ b, b = (x.kind == 3) := ⟨_, rfl⟩
 have hps : (p1 && p2) = false := by rw [hp1, hp2]; by_cases a : y.kind = 3 <;> by_cases c : x.kind = 3 <;> simp_all
 have HP_ := Lib.hid (And.intro hp1 (And.intro hp2 hps))
 clear hs hp1 hp2 hps
 obtain ⟨rk, hrk⟩ : ∃ k, (if H.rowB y = true then H.kind y else 0) = k := ⟨_, rfl⟩
 have HRK := Lib.hid hrk
 have hr0 : (rk != 0) = false := by rw [← hrk, if_neg (by rw [hr]; decide)]; rfl
 obtain ⟨ky, hky⟩ : ∃ k, H.kind y = k := ⟨_, rfl⟩
 have HKY := Lib.hid hky
 have HNO : Hid (¬ (ky = 3 ∧ x.isKey = true)) := Lib.hid (by rw [← hky]; exact hno)
 clear hno
 clear hrk hr hky
 obtain ⟨b, hb⟩ : ∃ gx_, (W.heap.size) = gx_ := ⟨_, rfl⟩
 replace S := (((S.alloc (.cells #[.int .i64 x.kind, .int .i64 x.n, .string x.s] 24)).alloc (.cells #[.int .i64 y.kind, .int .i64 y.n, .string y.s] 24)).alloc (.cells #[.string ⟨#[]⟩, .int .i64 0, .int .i64 0, .string ⟨#[]⟩, .bool false] 33))
 simp only [World.size_alloc, hb] at S
 obtain ⟨bA, hbs⟩ : ∃ l, l = boxV (b + 1) y :: boxV b x :: Rs := ⟨_, rfl⟩
 have HBS := Lib.hid hbs
 replace S := enterP (w := w) (all := [boxE (b + 1 + 1), boxV (b + 1) y, boxV b x]) (E := [boxE (b + 1 + 1)]) (B := [boxV (b + 1) y, boxV b x]) (Rs := Rs) S hbs (perm_of [0, 1, 2] (by show (List.range' 0 3).Perm [0, 1, 2]; decide) (by rfl))
 have C1 := baseC3 (w := w) (b := b + 1) hbs 0 rfl
 have C0 := baseC3 (w := w) (b := b) hbs 1 rfl
 clear hbs
 replace S := Lib.hid S
 go_enter Tryz.func119, Tryz.ntmps119
 go_upto_region 1 with fail
 try simp only [World.size_alloc, hb]
 clear hb
 go_upto_region 1 with fail
 go_cut [21] (fun s21 wx => s21 = .bool false ∧ Sep w ([boxE (b + 1 + 1)] ++ bA) wx)
 case first =>
  cases p1 with
  | false =>
   refine regionL (E := [boxE (b + 1 + 1)]) (base := bA) S.out ?_
   clear S
   refine qa ?_
   refine qc C1 ?_
   refine qa (v := .bool false) (hy := fun E Wx hSw => by (go_simp; rw [← HP_.out.1]; exact ⟨rfl, hSw⟩)) (h := ?_)
   refine qa ?_
   iterate 3 refine qz ?_
   refine qa ?_
   refine doneL (h := fun w1 S => ?_)
   replace S := Lib.hid S
   go_wp2_with fail
   go_meet
   exact ⟨rfl, S.out⟩
  | true =>
   have hp2f : p2 = false := by have := HP_.out.2.2; simpa using this
   refine regionL (E := [boxE (b + 1 + 1)]) (base := bA) S.out ?_
   clear S
   refine qa ?_
   refine qc C1 ?_
   refine qa (v := .bool true) (hy := fun E Wx hSw => by (go_simp; rw [← HP_.out.1]; exact ⟨rfl, hSw⟩)) (h := ?_)
   iterate 2 refine qa ?_
   refine qc C0 ?_
   refine qa (v := .bool false) (hy := fun E Wx hSw => by (go_simp; rw [← HP_.out.2.1, hp2f]; exact ⟨rfl, hSw⟩)) (h := ?_)
   refine qa ?_
   refine doneL (h := fun w2 S => ?_)
   replace S := Lib.hid S
   go_wp2_with fail
   go_meet
   exact ⟨rfl, S.out⟩
 case rest =>
  obtain ⟨rfl, S⟩ := hcut
  replace S := Lib.hid S
  have KR : QuietC w bA 58 #[hpV h, agV y] (.int .i64 rk) := Lib.hid fun W Q T => by
   rw [HBS.out] at T ⊢
   exact rrow_ok T (Q.length + 2 + i) (atI2 hi) y rk HRK.out
  go_upto_region 3 with fail
  refine regionL (E := [boxE (b + 1 + 1)]) (base := bA) S.out ?_
  clear S
  refine qa ?_
  refine qc C1 ?_
  refine qk KR ?_
  refine qa ?_
  refine doneL (h := fun w3 S => ?_)
  replace S := Lib.hid S
  clear KR
  have KK : QuietC w bA 60 #[hpV h, agV y] (.int .i64 ky) := Lib.hid fun W Q T => by
   rw [HBS.out] at T ⊢
   exact rkind_at T (Q.length + 2 + i) (atI2 hi) y ky HKY.out
  obtain ⟨kb, hkb⟩ : ∃ b, x.isKey = b := ⟨_, rfl⟩
  have HKB := Lib.hid hkb
  clear hkb
  have KY : QuietC w bA 95 #[agV x] (.bool kb) := Lib.hid fun W Q T => by
   have hh := rkey_ok W x
   rw [HKB.out] at hh
   exact hh.mono fun e W' ⟨e1, e2⟩ => ⟨e1, T.later e2⟩
  go_upto_region 12 with fail
  go_cut [69] (fun s69 wx => s69 = .bool true ∧ Sep w ([boxE (b + 1 + 1)] ++ bA) wx)
  case first =>
   by_cases h3 : ky = 3
   ·
    have e3 : (ky != 3) = false := by simp [h3]
    obtain rfl : kb = false := by rw [← HKB.out]; have := HNO.out; cases e : x.isKey; rfl; exact absurd ⟨h3, e⟩ this
    clear h3
    refine regionL (E := [boxE (b + 1 + 1)]) (base := bA) S.out ?_
    clear S
    refine qa ?_
    refine qc C1 ?_
    refine qk KK ?_
    iterate 2 refine qa ?_
    refine qc C0 ?_
    refine qk KY ?_
    iterate 2 refine qa ?_
    refine doneL (h := fun w4 S => ?_)
    replace S := Lib.hid S
    go_wp2_with fail
    go_meet
    exact ⟨rfl, S.out⟩
   ·
    have e3 : (ky != 3) = true := by simp [h3]
    clear h3
    refine regionL (E := [boxE (b + 1 + 1)]) (base := bA) S.out ?_
    clear S
    refine qa ?_
    refine qc C1 ?_
    refine qk KK ?_
    iterate 2 refine qa ?_
    iterate 3 refine qz ?_
    refine qa ?_
    refine doneL (h := fun w5 S => ?_)
    replace S := Lib.hid S
    go_wp2_with fail
    go_meet
    exact ⟨rfl, S.out⟩
  case rest =>
   obtain ⟨rfl, S⟩ := hcut
   replace S := Lib.hid S
   have KE : QuietC w bA 94 #[.string typeError] (excN typeError) := Lib.hid fun W Q T => by
    exact rexc_ok T _
   go_upto_region 13 with fail
   refine regionL (E := [boxE (b + 1 + 1)]) (base := bA) S.out ?_
   clear S
   refine qk KE ?_
   refine qa ?_
   refine qd undef [boxN (b + 1 + 1) typeError] (h1 := fun Wx hSw => by (have hz := hSw.box (b := (b + 1 + 1)) (o := objE) 0 rfl; refine useZ5 hz fun z0 z1 z2 z3 z4 y0 y1 y2 y3 y4 => ?_; go_simp; exact ⟨rfl, hSw.set5 0 rfl (.string typeError) (.int .i64 0) (.int .i64 0) (.string ⟨#[]⟩) (.bool false)⟩)) (h2 := ?_)
   refine doneL (h := fun w6 S => ?_)
   refine useR5 (S.box (b := b + 1 + 1) (o := objN typeError) 0 rfl) fun r0 r1 r2 r3 r4 => ?_
   replace S := Lib.hid S
   repeat (first | go_values | go_skip | go_guarded | go_step)
   refine bodyPost_ret (v := .tuple #[.bool false, excN typeError]) ?_ ?_ ?_
   ·
    simp [results, Tryz.results119, go_sem, r0, r1, r2, r3, r4]
   ·
    rfl
   refine ⟨rfl, ?_⟩
   replace S := S.out
   rw [HBS.out] at S
   exact S.tail.tail.tail
end
end Go.Proofs.YtijlebhoapdfnaaGreat
