/- ch 16: str, lost, Index. -/
import Derived.Test.YtijlebhoapdfnaaGreatOprN
set_option maxRecDepth 100000
set_option maxHeartbeats 12800000
namespace Go.Proofs.YtijlebhoapdfnaaGreat
set_option linter.unusedSimpArgs false
open Go.RowKit
set_option linter.unusedVariables false
section
variable {w W : World} {Rs : List Res} {h : Nat} {H : HeapM}
theorem okI_place {n : Nat} {i : Int} (hn : n ≤ 9000000) (hi : okI i) : okI (placeP n i) := by
 have hb := okI_range hi
 unfold placeP
 split
 ·
  exact okI_of (by omega)
 ·
  exact hi
theorem idx_at (S : Sep w Rs W) (i : Nat) (hi : Rs[i]? = some (heapR h H)) (v x : V) (j : Int) (hj : okI j) (hx : H.at v j = some x) : Calls Tryz.prog 88 #[.pointer (some ⟨h, 0, none⟩), .agg #[.int .i64 v.kind, .int .i64 v.n, .string v.s], .int .i64 j] W fun e W' => e = .returned (.tuple #[.agg #[.int .i64 x.kind, .int .i64 x.n, .string x.s], .bool true]) ∧ Sep w Rs W' := by
 have hh := S.at_ i hi v j hj
 rw [hx] at hh
 exact hh.mono fun e W' ⟨e1, e2, _⟩ => ⟨e1, e2⟩
theorem idx_get (S : Sep w Rs W) (i : Nat) (hi : Rs[i]? = some (heapR h H)) (v k x : V) (hx : H.get v k = some x) : Calls Tryz.prog 80 #[.pointer (some ⟨h, 0, none⟩), .agg #[.int .i64 v.kind, .int .i64 v.n, .string v.s], .agg #[.int .i64 k.kind, .int .i64 k.n, .string k.s]] W fun e W' => e = .returned (.tuple #[.agg #[.int .i64 x.kind, .int .i64 x.n, .string x.s], .bool true]) ∧ Sep w Rs W' := by
 have hh := S.get_ i hi v k
 rw [hx] at hh
 exact hh.mono fun e W' ⟨e1, e2, _⟩ => ⟨e1, e2⟩
theorem idx_get_no (S : Sep w Rs W) (i : Nat) (hi : Rs[i]? = some (heapR h H)) (v k : V) (hx : H.get v k = none) : Calls Tryz.prog 80 #[.pointer (some ⟨h, 0, none⟩), .agg #[.int .i64 v.kind, .int .i64 v.n, .string v.s], .agg #[.int .i64 k.kind, .int .i64 k.n, .string k.s]] W fun e W' => e = .returned (.tuple #[zeroV, .bool false]) ∧ Sep w Rs W' := by
 have hh := S.get_ i hi v k
 rw [hx] at hh
 exact hh.mono fun e W' ⟨e1, e2, _⟩ => ⟨e1, e2⟩
theorem ostr_no (S : Sep w Rs W) (s nm : ByteArray) (hn : nm.toList ≠ []) : Calls Tryz.prog 82 #[.string s, .string nm] W fun e W' => e = .returned (.tuple #[zeroV, excN nm]) ∧ Sep w Rs W' := by
 have hne : (nm.toList != []) = true := by simpa using hn
 have hne2 : nm.toList.isEmpty = false := by cases h : nm.toList <;> simp_all
 obtain ⟨b, hb⟩ : ∃ gx_, (W.heap.size) = gx_ := ⟨_, rfl⟩
 replace S := ((S.alloc (.cells #[.int .i64 0, .int .i64 0, .string ⟨#[]⟩] 24)).alloc (.cells #[.string ⟨#[]⟩, .int .i64 0, .int .i64 0, .string ⟨#[]⟩, .bool false] 33))
 simp only [World.size_alloc, hb] at S
 obtain ⟨bA, hbs⟩ : ∃ l, l = Rs := ⟨_, rfl⟩
 have HBS := Lib.hid hbs
 replace S := enterP (w := w) (all := [boxE (b + 1), boxZ b]) (E := [boxE (b + 1), boxZ b]) (B := []) (Rs := Rs) S hbs (perm_of [0, 1] (by show (List.range' 0 2).Perm [0, 1]; decide) (by rfl))
 clear hbs
 replace S := Lib.hid S
 go_enter Tryz.func82, Tryz.ntmps82
 go_upto_region 2 with fail
 try simp only [World.size_alloc, hb]
 clear hb
 have KR : QuietC w bA 87 #[.string nm] (excN nm) := Lib.hid fun W Q T => by
  exact (raise_ok W nm).mono fun e W' ⟨e1, e2⟩ => ⟨e1, T.later e2⟩
 refine regionL (E := [boxE (b + 1), boxZ b]) (base := bA) S.out ?_
 clear S
 iterate 2 (refine quietL ?_; simp only [pu])
 refine quietLK KR ?_
 simp only [pu]
 refine detL undef [boxE (b + 1), boxZ b] (h1 := fun Wx hSw => by (have hz := hSw.box (b := b) (o := objZ) 1 rfl; refine useZ3 hz fun z0 z1 z2 y0 y1 y2 => ?_; go_simp; exact ⟨rfl, hSw.set3 1 rfl (.int .i64 0) (.int .i64 0) (.string ⟨#[]⟩)⟩)) (h2 := ?_)
 simp only [pu]
 refine detL undef [boxN (b + 1) nm, boxZ b] (h1 := fun Wx hSw => by (have hz := hSw.box (b := (b + 1)) (o := objE) 0 rfl; refine useZ5 hz fun z0 z1 z2 z3 z4 y0 y1 y2 y3 y4 => ?_; go_simp; exact ⟨rfl, hSw.set5 0 rfl (.string nm) (.int .i64 0) (.int .i64 0) (.string ⟨#[]⟩) (.bool false)⟩)) (h2 := ?_)
 simp only [pu]
 intro w1 S
 replace S := Lib.hid S
 clear hne hne2
 replace S := S.out
 refine useR3 (S.box (b := b) (o := objZ) 1 rfl) fun r0 r1 r2 => ?_
 refine useR5 (S.box (b := b + 1) (o := objN nm) 0 rfl) fun r3 r4 r5 r6 r7 => ?_
 replace S := Lib.hid S
 repeat (first | go_values | go_skip | go_guarded | go_step)
 refine bodyPost_ret (v := .tuple #[zeroV, excN nm]) ?_ ?_ ?_
 ·
  simp [results, Tryz.results82, go_sem, r0, r1, r2, r3, r4, r5, r6, r7]
 ·
  rfl
 refine ⟨rfl, ?_⟩
 replace S := S.out
 rw [HBS.out] at S
 exact S.tail.tail
theorem lost_ok (S : Sep w Rs W) (x : V) : Calls Tryz.prog 90 #[.agg #[.int .i64 x.kind, .int .i64 x.n, .string x.s]] W fun e W' => e = .returned (.agg #[.string keyError, .int .i64 x.kind, .int .i64 x.n, .string x.s, .bool true]) ∧ Sep w Rs W' := by
 obtain ⟨b, hb⟩ : ∃ gx_, (W.heap.size) = gx_ := ⟨_, rfl⟩
 replace S := ((S.alloc (.cells #[.int .i64 x.kind, .int .i64 x.n, .string x.s] 24)).alloc (.cells #[.string ⟨#[]⟩, .int .i64 0, .int .i64 0, .string ⟨#[]⟩, .bool false] 33))
 simp only [World.size_alloc, hb] at S
 obtain ⟨bA, hbs⟩ : ∃ l, l = boxV b x :: Rs := ⟨_, rfl⟩
 have HBS := Lib.hid hbs
 replace S := enterP (w := w) (all := [boxE (b + 1), boxV b x]) (E := [boxE (b + 1)]) (B := [boxV b x]) (Rs := Rs) S hbs (perm_of [0, 1] (by show (List.range' 0 2).Perm [0, 1]; decide) (by rfl))
 have C0 := baseC3 (w := w) (b := b) hbs 0 rfl
 clear hbs
 replace S := Lib.hid S
 go_enter Tryz.func90, Tryz.ntmps90
 go_upto_region 1 with fail
 try simp only [World.size_alloc, hb]
 clear hb
 refine regionL (E := [boxE (b + 1)]) (base := bA) S.out ?_
 clear S
 refine quietLC C0 ?_
 simp only [pu]
 refine quietL ?_
 simp only [pu]
 refine detL undef [boxX (b + 1) keyError x.kind x.n x.s true] (h1 := fun Wx hSw => by (have hz := hSw.box (b := (b + 1)) (o := objE) 0 rfl; refine useZ5 hz fun z0 z1 z2 z3 z4 y0 y1 y2 y3 y4 => ?_; go_simp; exact ⟨rfl, hSw.set5 0 rfl (.string keyError) (.int .i64 x.kind) (.int .i64 x.n) (.string x.s) (.bool true)⟩)) (h2 := ?_)
 simp only [pu]
 intro w1 S
 refine useR5 (S.box (b := b + 1) (o := objX keyError x.kind x.n x.s true) 0 rfl) fun r0 r1 r2 r3 r4 => ?_
 replace S := Lib.hid S
 repeat (first | go_values | go_skip | go_guarded | go_step)
 refine bodyPost_ret (v := .agg #[.string keyError, .int .i64 x.kind, .int .i64 x.n, .string x.s, .bool true]) ?_ ?_ ?_
 ·
  simp [results, Tryz.results90, go_sem, r0, r1, r2, r3, r4]
 ·
  rfl
 refine ⟨rfl, ?_⟩
 replace S := S.out
 rw [HBS.out] at S
 exact S.tail.tail
theorem idx_row (S : Sep w Rs W) (i : Nat) (hi : Rs[i]? = some (heapR h H)) {N : Nat} (G : H.Good N) (hN : N ≤ 4000000) (x y v : V) (hx : H.rowB x = true) (hy : y.kind = 2) (hp : inP (H.items x).length y.n = true) (hv : H.at x (placeP (H.items x).length y.n) = some v) : Calls Tryz.prog 17 #[.pointer (some ⟨h, 0, none⟩), .agg #[.int .i64 x.kind, .int .i64 x.n, .string x.s], .agg #[.int .i64 y.kind, .int .i64 y.n, .string y.s]] W fun e W' => e = .returned (.tuple #[.agg #[.int .i64 v.kind, .int .i64 v.n, .string v.s], excZ]) ∧ Sep w Rs W' := by
 have hkx := HeapM.rowB_kind hx
 have hx4 : (x.kind == 3) = false := by have := H.kind_ref x (by omega); simp [this]
 have hy2 : (y.kind == 2) = true := by simp [hy]
 obtain ⟨X1, hX1⟩ : ∃ l, l = H.items x := ⟨_, rfl⟩
 have hgx : X1.length ≤ N := by rw [hX1]; exact G.items x
 have HX := Lib.hid hX1
 have HR := Lib.hid hx
 have HY2 := Lib.hid hy2
 rw [← hX1] at hp
 have HPL := Lib.hid hp
 have HV := Lib.hid hv
 clear hkx hx hX1 hy hp hv hy2
 obtain ⟨b, hb⟩ : ∃ gx_, (W.heap.size) = gx_ := ⟨_, rfl⟩
 replace S := ((((S.alloc (.cells #[.int .i64 x.kind, .int .i64 x.n, .string x.s] 24)).alloc (.cells #[.int .i64 y.kind, .int .i64 y.n, .string y.s] 24)).alloc (.cells #[.int .i64 0, .int .i64 0, .string ⟨#[]⟩] 24)).alloc (.cells #[.string ⟨#[]⟩, .int .i64 0, .int .i64 0, .string ⟨#[]⟩, .bool false] 33))
 simp only [World.size_alloc, hb] at S
 obtain ⟨bA, hbs⟩ : ∃ l, l = boxV (b + 1) y :: boxV b x :: Rs := ⟨_, rfl⟩
 have HBS := Lib.hid hbs
 replace S := enterP (w := w) (all := [boxE (b + 1 + 1 + 1), boxZ (b + 1 + 1), boxV (b + 1) y, boxV b x]) (E := [boxE (b + 1 + 1 + 1), boxZ (b + 1 + 1)]) (B := [boxV (b + 1) y, boxV b x]) (Rs := Rs) S hbs (perm_of [0, 1, 2, 3] (by show (List.range' 0 4).Perm [0, 1, 2, 3]; decide) (by rfl))
 have C1 := baseC3 (w := w) (b := b + 1) hbs 0 rfl
 have C0 := baseC3 (w := w) (b := b) hbs 1 rfl
 clear hbs
 replace S := Lib.hid S
 go_enter Tryz.func17, Tryz.ntmps17
 go_upto_region 1 with fail
 try simp only [World.size_alloc, hb]
 clear hb
 have KR : Hid True := Lib.hid trivial
 have KR : QuietC w bA 84 #[hpV h, agV x] (.bool true) := Lib.hid fun W Q T => by
  rw [HBS.out] at T ⊢
  exact row_ok T (Q.length + 2 + i) (atI2 hi) x true HR.out
 have KL : QuietC w bA 86 #[hpV h, agV x] (.int .i64 X1.length) := Lib.hid fun W Q T => by
  rw [HBS.out] at T ⊢
  exact len_at T (Q.length + 2 + i) (atI2 hi) x X1.length (by rw [HX.out])
 have KP : QuietC w bA 85 #[.int .i64 X1.length, .int .i64 y.n] (.tuple #[.int .i64 (placeP X1.length y.n), .bool true]) := Lib.hid fun W Q T => by
  have hh := place_ok W X1.length y.n (by omega) y.hn
  rw [HPL.out] at hh
  exact hh.mono fun e W' ⟨e1, e2⟩ => ⟨e1, by rw [e2]; exact T⟩
 refine regionL (E := [boxE (b + 1 + 1 + 1), boxZ (b + 1 + 1)]) (base := bA) S.out ?_
 clear S
 refine quietL ?_
 simp only [pu]
 refine quietLC C0 ?_
 simp only [pu]
 iterate 2 (refine quietL ?_; simp only [pu])
 iterate 3 (refine skipL ?_; simp only [pu])
 iterate 2 (refine quietL ?_; simp only [pu])
 intro w1 S
 replace S := Lib.hid S
 have hy2 := HY2.out
 go_upto_region 3 with fail
 refine regionL (E := [boxE (b + 1 + 1 + 1), boxZ (b + 1 + 1)]) (base := bA) S.out ?_
 clear S
 refine quietL ?_
 simp only [pu]
 refine quietLC C0 ?_
 simp only [pu]
 refine quietLK KR ?_
 simp only [pu]
 iterate 2 (refine quietL ?_; simp only [pu])
 refine quietLC C1 ?_
 simp only [pu]
 iterate 3 (refine quietL ?_; simp only [pu])
 intro w2 S
 replace S := Lib.hid S
 go_upto_region 4 with fail
 refine regionP 11 0 (E := [boxE (b + 1 + 1 + 1), boxZ (b + 1 + 1)]) (base := bA) S.out ?_
 clear S
 refine quietP ?_
 simp only [pu]
 refine quietPC C0 ?_
 simp only [pu]
 refine quietPK KL ?_
 simp only [pu]
 refine quietP ?_
 simp only [pu]
 refine quietPC C1 ?_
 simp only [pu]
 refine quietPK KP ?_
 simp only [pu]
 iterate 5 (refine quietP ?_; simp only [pu])
 refine endP ?_
 refine doneS (h := fun w3 S => ?_)
 replace S := Lib.hid S
 have KA : QuietC w bA 88 #[hpV h, agV x, .int .i64 (placeP X1.length y.n)] (.tuple #[.agg #[.int .i64 v.kind, .int .i64 v.n, .string v.s], .bool true]) := Lib.hid fun W Q T => by
  rw [HBS.out] at T ⊢
  exact (idx_at T (Q.length + 2 + i) (atI2 hi) x v _ (okI_place (by omega) y.hn) (by rw [HX.out] at *; exact HV.out))
 go_upto_region 7 with fail
 refine regionL (E := [emptyR, boxE (b + 1 + 1 + 1), boxZ (b + 1 + 1)]) (base := bA) (Sep.putE S.out) ?_
 clear S
 refine quietL ?_
 simp only [pu]
 refine quietLC C0 ?_
 simp only [pu]
 refine quietL ?_
 simp only [pu]
 refine quietLK KA ?_
 simp only [pu]
 iterate 3 (refine quietL ?_; simp only [pu])
 refine allocL 0 rfl (fun q => .pointer (some ⟨q, 0, none⟩)) (.cells #[.int .i64 0, .int .i64 0, .string ⟨#[]⟩] 24) (h1 := fun Wx => by go_simp) (h2 := fun qL1 => ?_)
 simp only [pu]
 try simp only [List.set_cons_zero, List.set_cons_succ]
 refine detL undef [boxV qL1 v, boxE (b + 1 + 1 + 1), boxZ (b + 1 + 1)] (h1 := fun Wx hSw => by (have hz := hSw.box (b := qL1) (o := objZ) 0 rfl; refine useZ3 hz fun z0 z1 z2 y0 y1 y2 => ?_; go_simp; exact ⟨rfl, hSw.set3 0 rfl (.int .i64 v.kind) (.int .i64 v.n) (.string v.s)⟩)) (h2 := ?_)
 simp only [pu]
 refine quietL ?_
 simp only [pu]
 intro w4 S
 replace S := Lib.hid S
 go_upto_region 8 with fail
 refine regionL (E := [boxV qL1 v, boxE (b + 1 + 1 + 1), boxZ (b + 1 + 1)]) (base := bA) S.out ?_
 clear S
 refine detL _ [boxV qL1 v, boxE (b + 1 + 1 + 1), boxZ (b + 1 + 1)] (h1 := fun Wx hSw => by (have hz := hSw.box (b := qL1) (o := objV v) 0 rfl; have z0 := cellAt hz 0 (v := .int .i64 v.kind) rfl; have z1 := cellAt hz 1 (v := .int .i64 v.n) rfl; have z2 := cellAt hz 2 (v := .string v.s) rfl; go_simp; exact ⟨rfl, hSw⟩)) (h2 := ?_)
 simp only [pu]
 refine quietL ?_
 simp only [pu]
 refine detL undef [boxV qL1 v, boxE (b + 1 + 1 + 1), boxV (b + 1 + 1) v] (h1 := fun Wx hSw => by (have hz := hSw.box (b := (b + 1 + 1)) (o := objZ) 2 rfl; refine useZ3 hz fun z0 z1 z2 y0 y1 y2 => ?_; go_simp; exact ⟨rfl, hSw.set3 2 rfl (.int .i64 v.kind) (.int .i64 v.n) (.string v.s)⟩)) (h2 := ?_)
 simp only [pu]
 refine detL undef [boxV qL1 v, boxE (b + 1 + 1 + 1), boxV (b + 1 + 1) v] (h1 := fun Wx hSw => by (have hz := hSw.box (b := (b + 1 + 1 + 1)) (o := objE) 1 rfl; refine useZ5 hz fun z0 z1 z2 z3 z4 y0 y1 y2 y3 y4 => ?_; go_simp; exact ⟨rfl, hSw.set5 1 rfl (.string ⟨#[]⟩) (.int .i64 0) (.int .i64 0) (.string ⟨#[]⟩) (.bool false)⟩)) (h2 := ?_)
 simp only [pu]
 intro w5 S
 refine useR3 (S.box (b := b + 1 + 1) (o := objV v) 2 rfl) fun r0 r1 r2 => ?_
 refine useR5 (S.box (b := b + 1 + 1 + 1) (o := objE) 1 rfl) fun r3 r4 r5 r6 r7 => ?_
 replace S := Lib.hid S
 repeat (first | go_values | go_skip | go_guarded | go_step)
 refine bodyPost_ret (v := .tuple #[.agg #[.int .i64 v.kind, .int .i64 v.n, .string v.s], excZ]) ?_ ?_ ?_
 ·
  simp [results, Tryz.results17, go_sem, r0, r1, r2, r3, r4, r5, r6, r7]
 ·
  rfl
 refine ⟨rfl, ?_⟩
 replace S := S.out
 rw [HBS.out] at S
 exact S.tail.tail.tail.tail.tail
theorem idx_row_no (S : Sep w Rs W) (i : Nat) (hi : Rs[i]? = some (heapR h H)) {N : Nat} (G : H.Good N) (hN : N ≤ 4000000) (x y : V) (hx : H.rowB x = true) (hy : y.kind = 2) (hp : inP (H.items x).length y.n = false) : Calls Tryz.prog 17 #[.pointer (some ⟨h, 0, none⟩), .agg #[.int .i64 x.kind, .int .i64 x.n, .string x.s], .agg #[.int .i64 y.kind, .int .i64 y.n, .string y.s]] W fun e W' => e = .returned (.tuple #[zeroV, excN indexError]) ∧ Sep w Rs W' := by
 have hkx := HeapM.rowB_kind hx
 have hx4 : (x.kind == 3) = false := by have := H.kind_ref x (by omega); simp [this]
 have hy2 : (y.kind == 2) = true := by simp [hy]
 obtain ⟨X1, hX1⟩ : ∃ l, l = H.items x := ⟨_, rfl⟩
 have hgx : X1.length ≤ N := by rw [hX1]; exact G.items x
 have HX := Lib.hid hX1
 have HR := Lib.hid hx
 have HY2 := Lib.hid hy2
 rw [← hX1] at hp
 have HPL := Lib.hid hp
 clear hkx hx hX1 hy hp hy2
 obtain ⟨b, hb⟩ : ∃ gx_, (W.heap.size) = gx_ := ⟨_, rfl⟩
 replace S := ((((S.alloc (.cells #[.int .i64 x.kind, .int .i64 x.n, .string x.s] 24)).alloc (.cells #[.int .i64 y.kind, .int .i64 y.n, .string y.s] 24)).alloc (.cells #[.int .i64 0, .int .i64 0, .string ⟨#[]⟩] 24)).alloc (.cells #[.string ⟨#[]⟩, .int .i64 0, .int .i64 0, .string ⟨#[]⟩, .bool false] 33))
 simp only [World.size_alloc, hb] at S
 obtain ⟨bA, hbs⟩ : ∃ l, l = boxV (b + 1) y :: boxV b x :: Rs := ⟨_, rfl⟩
 have HBS := Lib.hid hbs
 replace S := enterP (w := w) (all := [boxE (b + 1 + 1 + 1), boxZ (b + 1 + 1), boxV (b + 1) y, boxV b x]) (E := [boxE (b + 1 + 1 + 1), boxZ (b + 1 + 1)]) (B := [boxV (b + 1) y, boxV b x]) (Rs := Rs) S hbs (perm_of [0, 1, 2, 3] (by show (List.range' 0 4).Perm [0, 1, 2, 3]; decide) (by rfl))
 have C1 := baseC3 (w := w) (b := b + 1) hbs 0 rfl
 have C0 := baseC3 (w := w) (b := b) hbs 1 rfl
 clear hbs
 replace S := Lib.hid S
 go_enter Tryz.func17, Tryz.ntmps17
 go_upto_region 1 with fail
 try simp only [World.size_alloc, hb]
 clear hb
 have KR : Hid True := Lib.hid trivial
 have KR : QuietC w bA 84 #[hpV h, agV x] (.bool true) := Lib.hid fun W Q T => by
  rw [HBS.out] at T ⊢
  exact row_ok T (Q.length + 2 + i) (atI2 hi) x true HR.out
 have KL : QuietC w bA 86 #[hpV h, agV x] (.int .i64 X1.length) := Lib.hid fun W Q T => by
  rw [HBS.out] at T ⊢
  exact len_at T (Q.length + 2 + i) (atI2 hi) x X1.length (by rw [HX.out])
 have KP : QuietC w bA 85 #[.int .i64 X1.length, .int .i64 y.n] (.tuple #[.int .i64 (placeP X1.length y.n), .bool false]) := Lib.hid fun W Q T => by
  have hh := place_ok W X1.length y.n (by omega) y.hn
  rw [HPL.out] at hh
  exact hh.mono fun e W' ⟨e1, e2⟩ => ⟨e1, by rw [e2]; exact T⟩
 refine regionL (E := [boxE (b + 1 + 1 + 1), boxZ (b + 1 + 1)]) (base := bA) S.out ?_
 clear S
 refine quietL ?_
 simp only [pu]
 refine quietLC C0 ?_
 simp only [pu]
 iterate 2 (refine quietL ?_; simp only [pu])
 iterate 3 (refine skipL ?_; simp only [pu])
 iterate 2 (refine quietL ?_; simp only [pu])
 intro w1 S
 replace S := Lib.hid S
 have hy2 := HY2.out
 go_upto_region 3 with fail
 refine regionL (E := [boxE (b + 1 + 1 + 1), boxZ (b + 1 + 1)]) (base := bA) S.out ?_
 clear S
 refine quietL ?_
 simp only [pu]
 refine quietLC C0 ?_
 simp only [pu]
 refine quietLK KR ?_
 simp only [pu]
 iterate 2 (refine quietL ?_; simp only [pu])
 refine quietLC C1 ?_
 simp only [pu]
 iterate 3 (refine quietL ?_; simp only [pu])
 intro w2 S
 replace S := Lib.hid S
 go_upto_region 4 with fail
 refine regionP 11 0 (E := [boxE (b + 1 + 1 + 1), boxZ (b + 1 + 1)]) (base := bA) S.out ?_
 clear S
 refine quietP ?_
 simp only [pu]
 refine quietPC C0 ?_
 simp only [pu]
 refine quietPK KL ?_
 simp only [pu]
 refine quietP ?_
 simp only [pu]
 refine quietPC C1 ?_
 simp only [pu]
 refine quietPK KP ?_
 simp only [pu]
 iterate 5 (refine quietP ?_; simp only [pu])
 refine endP ?_
 refine doneS (h := fun w3 S => ?_)
 replace S := Lib.hid S
 have KQ : QuietC w bA 87 #[.string indexError] (excN indexError) := Lib.hid fun W Q T => by
  exact (raise_ok W _).mono fun e W' ⟨e1, e2⟩ => ⟨e1, T.later e2⟩
 go_upto_region 6 with fail
 refine regionL (E := [boxE (b + 1 + 1 + 1), boxZ (b + 1 + 1)]) (base := bA) S.out ?_
 clear S
 refine quietL ?_
 simp only [pu]
 refine quietLK KQ ?_
 simp only [pu]
 refine detL undef [boxE (b + 1 + 1 + 1), boxZ (b + 1 + 1)] (h1 := fun Wx hSw => by (have hz := hSw.box (b := (b + 1 + 1)) (o := objZ) 1 rfl; refine useZ3 hz fun z0 z1 z2 y0 y1 y2 => ?_; go_simp; exact ⟨rfl, hSw.set3 1 rfl (.int .i64 0) (.int .i64 0) (.string ⟨#[]⟩)⟩)) (h2 := ?_)
 simp only [pu]
 refine detL undef [boxN (b + 1 + 1 + 1) indexError, boxZ (b + 1 + 1)] (h1 := fun Wx hSw => by (have hz := hSw.box (b := (b + 1 + 1 + 1)) (o := objE) 0 rfl; refine useZ5 hz fun z0 z1 z2 z3 z4 y0 y1 y2 y3 y4 => ?_; go_simp; exact ⟨rfl, hSw.set5 0 rfl (.string indexError) (.int .i64 0) (.int .i64 0) (.string ⟨#[]⟩) (.bool false)⟩)) (h2 := ?_)
 simp only [pu]
 intro w4 S
 refine useR3 (S.box (b := b + 1 + 1) (o := objZ) 1 rfl) fun r0 r1 r2 => ?_
 refine useR5 (S.box (b := b + 1 + 1 + 1) (o := objN indexError) 0 rfl) fun r3 r4 r5 r6 r7 => ?_
 replace S := Lib.hid S
 repeat (first | go_values | go_skip | go_guarded | go_step)
 refine bodyPost_ret (v := .tuple #[zeroV, excN indexError]) ?_ ?_ ?_
 ·
  simp [results, Tryz.results17, go_sem, r0, r1, r2, r3, r4, r5, r6, r7]
 ·
  rfl
 refine ⟨rfl, ?_⟩
 replace S := S.out
 rw [HBS.out] at S
 exact S.tail.tail.tail.tail
theorem idx_dict (S : Sep w Rs W) (i : Nat) (hi : Rs[i]? = some (heapR h H)) (x y v : V) (hx3 : ¬ x.kind = 3) (hr : H.rowB x = false) (hd : H.kind x = 3) (hk : y.isKey = true) (hv : H.get x y = some v) : Calls Tryz.prog 17 #[.pointer (some ⟨h, 0, none⟩), .agg #[.int .i64 x.kind, .int .i64 x.n, .string x.s], .agg #[.int .i64 y.kind, .int .i64 y.n, .string y.s]] W fun e W' => e = .returned (.tuple #[.agg #[.int .i64 v.kind, .int .i64 v.n, .string v.s], excZ]) ∧ Sep w Rs W' := by
 have hx4 : (x.kind == 3) = false := by simpa using hx3
 obtain ⟨kx, hK⟩ : ∃ k, H.kind x = k := ⟨_, rfl⟩
 have hkd : (kx == 3) = true := by rw [← hK]; simp [hd]
 have HK := Lib.hid hK
 have HR := Lib.hid hr
 have HKEY := Lib.hid hk
 have HV := Lib.hid hv
 clear hx3 hK hr hd hk hv
 obtain ⟨b, hb⟩ : ∃ gx_, (W.heap.size) = gx_ := ⟨_, rfl⟩
 replace S := ((((S.alloc (.cells #[.int .i64 x.kind, .int .i64 x.n, .string x.s] 24)).alloc (.cells #[.int .i64 y.kind, .int .i64 y.n, .string y.s] 24)).alloc (.cells #[.int .i64 0, .int .i64 0, .string ⟨#[]⟩] 24)).alloc (.cells #[.string ⟨#[]⟩, .int .i64 0, .int .i64 0, .string ⟨#[]⟩, .bool false] 33))
 simp only [World.size_alloc, hb] at S
 obtain ⟨bA, hbs⟩ : ∃ l, l = boxV (b + 1) y :: boxV b x :: Rs := ⟨_, rfl⟩
 have HBS := Lib.hid hbs
 replace S := enterP (w := w) (all := [boxE (b + 1 + 1 + 1), boxZ (b + 1 + 1), boxV (b + 1) y, boxV b x]) (E := [boxE (b + 1 + 1 + 1), boxZ (b + 1 + 1)]) (B := [boxV (b + 1) y, boxV b x]) (Rs := Rs) S hbs (perm_of [0, 1, 2, 3] (by show (List.range' 0 4).Perm [0, 1, 2, 3]; decide) (by rfl))
 have C1 := baseC3 (w := w) (b := b + 1) hbs 0 rfl
 have C0 := baseC3 (w := w) (b := b) hbs 1 rfl
 clear hbs
 replace S := Lib.hid S
 go_enter Tryz.func17, Tryz.ntmps17
 go_upto_region 1 with fail
 try simp only [World.size_alloc, hb]
 clear hb
 refine regionL (E := [boxE (b + 1 + 1 + 1), boxZ (b + 1 + 1)]) (base := bA) S.out ?_
 clear S
 refine quietL ?_
 simp only [pu]
 refine quietLC C0 ?_
 simp only [pu]
 iterate 2 (refine quietL ?_; simp only [pu])
 iterate 3 (refine skipL ?_; simp only [pu])
 iterate 2 (refine quietL ?_; simp only [pu])
 intro w1 S
 replace S := Lib.hid S
 have KR : QuietC w bA 84 #[hpV h, agV x] (.bool false) := Lib.hid fun W Q T => by
  rw [HBS.out] at T ⊢
  exact row_ok T (Q.length + 2 + i) (atI2 hi) x _ HR.out
 go_upto_region 3 with fail
 refine regionL (E := [boxE (b + 1 + 1 + 1), boxZ (b + 1 + 1)]) (base := bA) S.out ?_
 clear S
 refine quietL ?_
 simp only [pu]
 refine quietLC C0 ?_
 simp only [pu]
 refine quietLK KR ?_
 simp only [pu]
 refine quietL ?_
 simp only [pu]
 iterate 3 (refine skipL ?_; simp only [pu])
 iterate 2 (refine quietL ?_; simp only [pu])
 intro w2 S
 replace S := Lib.hid S
 have KK : QuietC w bA 72 #[hpV h, agV x] (.int .i64 kx) := Lib.hid fun W Q T => by
  rw [HBS.out] at T ⊢
  exact kind_at T (Q.length + 2 + i) (atI2 hi) x kx HK.out
 have KY : QuietC w bA 89 #[agV y] (.bool true) := Lib.hid fun W Q T => by
  have hh := dict_key W y
  rw [HKEY.out] at hh
  exact hh.mono fun e W' ⟨e1, e2⟩ => ⟨e1, T.later e2⟩
 go_upto_region 9 with fail
 refine regionL (E := [boxE (b + 1 + 1 + 1), boxZ (b + 1 + 1)]) (base := bA) S.out ?_
 clear S
 refine quietL ?_
 simp only [pu]
 refine quietLC C0 ?_
 simp only [pu]
 refine quietLK KK ?_
 simp only [pu]
 iterate 2 (refine quietL ?_; simp only [pu])
 refine quietLC C1 ?_
 simp only [pu]
 refine quietLK KY ?_
 simp only [pu]
 iterate 2 (refine quietL ?_; simp only [pu])
 intro w3 S
 replace S := Lib.hid S
 have KG : QuietC w bA 80 #[hpV h, agV x, agV y] (.tuple #[.agg #[.int .i64 v.kind, .int .i64 v.n, .string v.s], .bool true]) := Lib.hid fun W Q T => by
  rw [HBS.out] at T ⊢
  exact idx_get T (Q.length + 2 + i) (atI2 hi) x y v HV.out
 go_upto_region 10 with fail
 refine regionL (E := [emptyR, boxE (b + 1 + 1 + 1), boxZ (b + 1 + 1)]) (base := bA) (Sep.putE S.out) ?_
 clear S
 refine quietL ?_
 simp only [pu]
 refine quietLC C0 ?_
 simp only [pu]
 refine quietLC C1 ?_
 simp only [pu]
 refine quietLK KG ?_
 simp only [pu]
 iterate 3 (refine quietL ?_; simp only [pu])
 refine allocL 0 rfl (fun q => .pointer (some ⟨q, 0, none⟩)) (.cells #[.int .i64 0, .int .i64 0, .string ⟨#[]⟩] 24) (h1 := fun Wx => by go_simp) (h2 := fun qL1 => ?_)
 simp only [pu]
 try simp only [List.set_cons_zero, List.set_cons_succ]
 refine detL undef [boxV qL1 v, boxE (b + 1 + 1 + 1), boxZ (b + 1 + 1)] (h1 := fun Wx hSw => by (have hz := hSw.box (b := qL1) (o := objZ) 0 rfl; refine useZ3 hz fun z0 z1 z2 y0 y1 y2 => ?_; go_simp; exact ⟨rfl, hSw.set3 0 rfl (.int .i64 v.kind) (.int .i64 v.n) (.string v.s)⟩)) (h2 := ?_)
 simp only [pu]
 refine quietL ?_
 simp only [pu]
 intro w4 S
 replace S := Lib.hid S
 go_upto_region 13 with fail
 refine regionL (E := [boxV qL1 v, boxE (b + 1 + 1 + 1), boxZ (b + 1 + 1)]) (base := bA) S.out ?_
 clear S
 refine detL _ [boxV qL1 v, boxE (b + 1 + 1 + 1), boxZ (b + 1 + 1)] (h1 := fun Wx hSw => by (have hz := hSw.box (b := qL1) (o := objV v) 0 rfl; have z0 := cellAt hz 0 (v := .int .i64 v.kind) rfl; have z1 := cellAt hz 1 (v := .int .i64 v.n) rfl; have z2 := cellAt hz 2 (v := .string v.s) rfl; go_simp; exact ⟨rfl, hSw⟩)) (h2 := ?_)
 simp only [pu]
 refine quietL ?_
 simp only [pu]
 refine detL undef [boxV qL1 v, boxE (b + 1 + 1 + 1), boxV (b + 1 + 1) v] (h1 := fun Wx hSw => by (have hz := hSw.box (b := (b + 1 + 1)) (o := objZ) 2 rfl; refine useZ3 hz fun z0 z1 z2 y0 y1 y2 => ?_; go_simp; exact ⟨rfl, hSw.set3 2 rfl (.int .i64 v.kind) (.int .i64 v.n) (.string v.s)⟩)) (h2 := ?_)
 simp only [pu]
 refine detL undef [boxV qL1 v, boxE (b + 1 + 1 + 1), boxV (b + 1 + 1) v] (h1 := fun Wx hSw => by (have hz := hSw.box (b := (b + 1 + 1 + 1)) (o := objE) 1 rfl; refine useZ5 hz fun z0 z1 z2 z3 z4 y0 y1 y2 y3 y4 => ?_; go_simp; exact ⟨rfl, hSw.set5 1 rfl (.string ⟨#[]⟩) (.int .i64 0) (.int .i64 0) (.string ⟨#[]⟩) (.bool false)⟩)) (h2 := ?_)
 simp only [pu]
 intro w5 S
 refine useR3 (S.box (b := b + 1 + 1) (o := objV v) 2 rfl) fun r0 r1 r2 => ?_
 refine useR5 (S.box (b := b + 1 + 1 + 1) (o := objE) 1 rfl) fun r3 r4 r5 r6 r7 => ?_
 replace S := Lib.hid S
 repeat (first | go_values | go_skip | go_guarded | go_step)
 refine bodyPost_ret (v := .tuple #[.agg #[.int .i64 v.kind, .int .i64 v.n, .string v.s], excZ]) ?_ ?_ ?_
 ·
  simp [results, Tryz.results17, go_sem, r0, r1, r2, r3, r4, r5, r6, r7]
 ·
  rfl
 refine ⟨rfl, ?_⟩
 replace S := S.out
 rw [HBS.out] at S
 exact S.tail.tail.tail.tail.tail
theorem idx_lost (S : Sep w Rs W) (i : Nat) (hi : Rs[i]? = some (heapR h H)) (x y : V) (hx3 : ¬ x.kind = 3) (hr : H.rowB x = false) (hd : H.kind x = 3) (hk : y.isKey = true) (hv : H.get x y = none) : Calls Tryz.prog 17 #[.pointer (some ⟨h, 0, none⟩), .agg #[.int .i64 x.kind, .int .i64 x.n, .string x.s], .agg #[.int .i64 y.kind, .int .i64 y.n, .string y.s]] W fun e W' => e = .returned (.tuple #[zeroV, .agg #[.string keyError, .int .i64 y.kind, .int .i64 y.n, .string y.s, .bool true]]) ∧ Sep w Rs W' := by
 have hx4 : (x.kind == 3) = false := by simpa using hx3
 obtain ⟨kx, hK⟩ : ∃ k, H.kind x = k := ⟨_, rfl⟩
 have hkd : (kx == 3) = true := by rw [← hK]; simp [hd]
 have HK := Lib.hid hK
 have HR := Lib.hid hr
 have HKEY := Lib.hid hk
 have HV := Lib.hid hv
 clear hx3 hK hr hd hk hv
 obtain ⟨b, hb⟩ : ∃ gx_, (W.heap.size) = gx_ := ⟨_, rfl⟩
 replace S := ((((S.alloc (.cells #[.int .i64 x.kind, .int .i64 x.n, .string x.s] 24)).alloc (.cells #[.int .i64 y.kind, .int .i64 y.n, .string y.s] 24)).alloc (.cells #[.int .i64 0, .int .i64 0, .string ⟨#[]⟩] 24)).alloc (.cells #[.string ⟨#[]⟩, .int .i64 0, .int .i64 0, .string ⟨#[]⟩, .bool false] 33))
 simp only [World.size_alloc, hb] at S
 obtain ⟨bA, hbs⟩ : ∃ l, l = boxV (b + 1) y :: boxV b x :: Rs := ⟨_, rfl⟩
 have HBS := Lib.hid hbs
 replace S := enterP (w := w) (all := [boxE (b + 1 + 1 + 1), boxZ (b + 1 + 1), boxV (b + 1) y, boxV b x]) (E := [boxE (b + 1 + 1 + 1), boxZ (b + 1 + 1)]) (B := [boxV (b + 1) y, boxV b x]) (Rs := Rs) S hbs (perm_of [0, 1, 2, 3] (by show (List.range' 0 4).Perm [0, 1, 2, 3]; decide) (by rfl))
 have C1 := baseC3 (w := w) (b := b + 1) hbs 0 rfl
 have C0 := baseC3 (w := w) (b := b) hbs 1 rfl
 clear hbs
 replace S := Lib.hid S
 go_enter Tryz.func17, Tryz.ntmps17
 go_upto_region 1 with fail
 try simp only [World.size_alloc, hb]
 clear hb
 refine regionL (E := [boxE (b + 1 + 1 + 1), boxZ (b + 1 + 1)]) (base := bA) S.out ?_
 clear S
 refine quietL ?_
 simp only [pu]
 refine quietLC C0 ?_
 simp only [pu]
 iterate 2 (refine quietL ?_; simp only [pu])
 iterate 3 (refine skipL ?_; simp only [pu])
 iterate 2 (refine quietL ?_; simp only [pu])
 intro w1 S
 replace S := Lib.hid S
 have KR : QuietC w bA 84 #[hpV h, agV x] (.bool false) := Lib.hid fun W Q T => by
  rw [HBS.out] at T ⊢
  exact row_ok T (Q.length + 2 + i) (atI2 hi) x _ HR.out
 go_upto_region 3 with fail
 refine regionL (E := [boxE (b + 1 + 1 + 1), boxZ (b + 1 + 1)]) (base := bA) S.out ?_
 clear S
 refine quietL ?_
 simp only [pu]
 refine quietLC C0 ?_
 simp only [pu]
 refine quietLK KR ?_
 simp only [pu]
 refine quietL ?_
 simp only [pu]
 iterate 3 (refine skipL ?_; simp only [pu])
 iterate 2 (refine quietL ?_; simp only [pu])
 intro w2 S
 replace S := Lib.hid S
 have KK : QuietC w bA 72 #[hpV h, agV x] (.int .i64 kx) := Lib.hid fun W Q T => by
  rw [HBS.out] at T ⊢
  exact kind_at T (Q.length + 2 + i) (atI2 hi) x kx HK.out
 have KY : QuietC w bA 89 #[agV y] (.bool true) := Lib.hid fun W Q T => by
  have hh := dict_key W y
  rw [HKEY.out] at hh
  exact hh.mono fun e W' ⟨e1, e2⟩ => ⟨e1, T.later e2⟩
 go_upto_region 9 with fail
 refine regionL (E := [boxE (b + 1 + 1 + 1), boxZ (b + 1 + 1)]) (base := bA) S.out ?_
 clear S
 refine quietL ?_
 simp only [pu]
 refine quietLC C0 ?_
 simp only [pu]
 refine quietLK KK ?_
 simp only [pu]
 iterate 2 (refine quietL ?_; simp only [pu])
 refine quietLC C1 ?_
 simp only [pu]
 refine quietLK KY ?_
 simp only [pu]
 iterate 2 (refine quietL ?_; simp only [pu])
 intro w3 S
 replace S := Lib.hid S
 have KG : QuietC w bA 80 #[hpV h, agV x, agV y] (.tuple #[zeroV, .bool false]) := Lib.hid fun W Q T => by
  rw [HBS.out] at T ⊢
  exact idx_get_no T (Q.length + 2 + i) (atI2 hi) x y HV.out
 go_upto_region 10 with fail
 refine regionL (E := [emptyR, boxE (b + 1 + 1 + 1), boxZ (b + 1 + 1)]) (base := bA) (Sep.putE S.out) ?_
 clear S
 refine quietL ?_
 simp only [pu]
 refine quietLC C0 ?_
 simp only [pu]
 refine quietLC C1 ?_
 simp only [pu]
 refine quietLK KG ?_
 simp only [pu]
 iterate 3 (refine quietL ?_; simp only [pu])
 refine allocL 0 rfl (fun q => .pointer (some ⟨q, 0, none⟩)) (.cells #[.int .i64 0, .int .i64 0, .string ⟨#[]⟩] 24) (h1 := fun Wx => by go_simp) (h2 := fun qL1 => ?_)
 simp only [pu]
 try simp only [List.set_cons_zero, List.set_cons_succ]
 refine detL undef [boxZ qL1, boxE (b + 1 + 1 + 1), boxZ (b + 1 + 1)] (h1 := fun Wx hSw => by (have hz := hSw.box (b := qL1) (o := objZ) 0 rfl; refine useZ3 hz fun z0 z1 z2 y0 y1 y2 => ?_; go_simp; exact ⟨rfl, hSw.set3 0 rfl (.int .i64 0) (.int .i64 0) (.string ⟨#[]⟩)⟩)) (h2 := ?_)
 simp only [pu]
 refine quietL ?_
 simp only [pu]
 intro w4 S
 replace S := Lib.hid S
 have KO : QuietC w bA 90 #[agV y] (.agg #[.string keyError, .int .i64 y.kind, .int .i64 y.n, .string y.s, .bool true]) := Lib.hid fun W Q T => by
  exact lost_ok T y
 go_upto_region 12 with fail
 refine regionL (E := [boxZ qL1, boxE (b + 1 + 1 + 1), boxZ (b + 1 + 1)]) (base := bA) S.out ?_
 clear S
 refine quietL ?_
 simp only [pu]
 refine quietLC C1 ?_
 simp only [pu]
 refine quietLK KO ?_
 simp only [pu]
 refine detL undef [boxZ qL1, boxE (b + 1 + 1 + 1), boxZ (b + 1 + 1)] (h1 := fun Wx hSw => by (have hz := hSw.box (b := (b + 1 + 1)) (o := objZ) 2 rfl; refine useZ3 hz fun z0 z1 z2 y0 y1 y2 => ?_; go_simp; exact ⟨rfl, hSw.set3 2 rfl (.int .i64 0) (.int .i64 0) (.string ⟨#[]⟩)⟩)) (h2 := ?_)
 simp only [pu]
 refine detL undef [boxZ qL1, boxX (b + 1 + 1 + 1) keyError y.kind y.n y.s true, boxZ (b + 1 + 1)] (h1 := fun Wx hSw => by (have hz := hSw.box (b := (b + 1 + 1 + 1)) (o := objE) 1 rfl; refine useZ5 hz fun z0 z1 z2 z3 z4 y0 y1 y2 y3 y4 => ?_; go_simp; exact ⟨rfl, hSw.set5 1 rfl (.string keyError) (.int .i64 y.kind) (.int .i64 y.n) (.string y.s) (.bool true)⟩)) (h2 := ?_)
 simp only [pu]
 intro w5 S
 refine useR3 (S.box (b := b + 1 + 1) (o := objZ) 2 rfl) fun r0 r1 r2 => ?_
 refine useR5 (S.box (b := b + 1 + 1 + 1) (o := objX keyError y.kind y.n y.s true) 1 rfl) fun r3 r4 r5 r6 r7 => ?_
 replace S := Lib.hid S
 repeat (first | go_values | go_skip | go_guarded | go_step)
 refine bodyPost_ret (v := .tuple #[zeroV, .agg #[.string keyError, .int .i64 y.kind, .int .i64 y.n, .string y.s, .bool true]]) ?_ ?_ ?_
 ·
  simp [results, Tryz.results17, go_sem, r0, r1, r2, r3, r4, r5, r6, r7]
 ·
  rfl
 refine ⟨rfl, ?_⟩
 replace S := S.out
 rw [HBS.out] at S
 exact S.tail.tail.tail.tail.tail
theorem idx_w1 (S : Sep w Rs W) (i : Nat) (hi : Rs[i]? = some (heapR h H)) (x y : V) (hx3 : x.kind = 3) (hr : H.rowB x = false) (hd : ¬ H.kind x = 3) (hy : ¬ y.kind = 2) : Calls Tryz.prog 17 #[.pointer (some ⟨h, 0, none⟩), .agg #[.int .i64 x.kind, .int .i64 x.n, .string x.s], .agg #[.int .i64 y.kind, .int .i64 y.n, .string y.s]] W fun e W' => e = .returned (.tuple #[zeroV, excN typeError]) ∧ Sep w Rs W' := by
 have hx4 : (x.kind == 3) = true := by simp [hx3]
 have hy2 : (y.kind == 2) = false := by simpa using hy
 obtain ⟨kx, hK⟩ : ∃ k, H.kind x = k := ⟨_, rfl⟩
 have hkd : (kx == 3) = false := by rw [← hK]; simpa using hd
 have HK := Lib.hid hK
 have HR := Lib.hid hr
 clear hx3 hK hr hd hy
 obtain ⟨b, hb⟩ : ∃ gx_, (W.heap.size) = gx_ := ⟨_, rfl⟩
 replace S := ((((S.alloc (.cells #[.int .i64 x.kind, .int .i64 x.n, .string x.s] 24)).alloc (.cells #[.int .i64 y.kind, .int .i64 y.n, .string y.s] 24)).alloc (.cells #[.int .i64 0, .int .i64 0, .string ⟨#[]⟩] 24)).alloc (.cells #[.string ⟨#[]⟩, .int .i64 0, .int .i64 0, .string ⟨#[]⟩, .bool false] 33))
 simp only [World.size_alloc, hb] at S
 obtain ⟨bA, hbs⟩ : ∃ l, l = boxV (b + 1) y :: boxV b x :: Rs := ⟨_, rfl⟩
 have HBS := Lib.hid hbs
 replace S := enterP (w := w) (all := [boxE (b + 1 + 1 + 1), boxZ (b + 1 + 1), boxV (b + 1) y, boxV b x]) (E := [boxE (b + 1 + 1 + 1), boxZ (b + 1 + 1)]) (B := [boxV (b + 1) y, boxV b x]) (Rs := Rs) S hbs (perm_of [0, 1, 2, 3] (by show (List.range' 0 4).Perm [0, 1, 2, 3]; decide) (by rfl))
 have C1 := baseC3 (w := w) (b := b + 1) hbs 0 rfl
 have C0 := baseC3 (w := w) (b := b) hbs 1 rfl
 clear hbs
 replace S := Lib.hid S
 go_enter Tryz.func17, Tryz.ntmps17
 go_upto_region 1 with fail
 try simp only [World.size_alloc, hb]
 clear hb
 refine regionL (E := [boxE (b + 1 + 1 + 1), boxZ (b + 1 + 1)]) (base := bA) S.out ?_
 clear S
 refine quietL ?_
 simp only [pu]
 refine quietLC C0 ?_
 simp only [pu]
 iterate 3 (refine quietL ?_; simp only [pu])
 refine quietLC C1 ?_
 simp only [pu]
 iterate 3 (refine quietL ?_; simp only [pu])
 intro w1 S
 replace S := Lib.hid S
 have KR : QuietC w bA 84 #[hpV h, agV x] (.bool false) := Lib.hid fun W Q T => by
  rw [HBS.out] at T ⊢
  exact row_ok T (Q.length + 2 + i) (atI2 hi) x _ HR.out
 go_upto_region 3 with fail
 refine regionL (E := [boxE (b + 1 + 1 + 1), boxZ (b + 1 + 1)]) (base := bA) S.out ?_
 clear S
 refine quietL ?_
 simp only [pu]
 refine quietLC C0 ?_
 simp only [pu]
 refine quietLK KR ?_
 simp only [pu]
 refine quietL ?_
 simp only [pu]
 iterate 3 (refine skipL ?_; simp only [pu])
 iterate 2 (refine quietL ?_; simp only [pu])
 intro w2 S
 replace S := Lib.hid S
 have KK : QuietC w bA 72 #[hpV h, agV x] (.int .i64 kx) := Lib.hid fun W Q T => by
  rw [HBS.out] at T ⊢
  exact kind_at T (Q.length + 2 + i) (atI2 hi) x kx HK.out
 go_upto_region 9 with fail
 refine regionL (E := [boxE (b + 1 + 1 + 1), boxZ (b + 1 + 1)]) (base := bA) S.out ?_
 clear S
 refine quietL ?_
 simp only [pu]
 refine quietLC C0 ?_
 simp only [pu]
 refine quietLK KK ?_
 simp only [pu]
 iterate 2 (refine quietL ?_; simp only [pu])
 iterate 2 (refine skipL ?_; simp only [pu])
 iterate 2 (refine quietL ?_; simp only [pu])
 intro w3 S
 replace S := Lib.hid S
 have KW : QuietC w bA 46 #[] (.tuple #[zeroV, excN typeError]) := Lib.hid fun W Q T => by
  exact wrong_ok T
 go_upto_region 14 with fail
 refine regionL (E := [boxE (b + 1 + 1 + 1), boxZ (b + 1 + 1)]) (base := bA) S.out ?_
 clear S
 refine quietLK KW ?_
 simp only [pu]
 iterate 2 (refine quietL ?_; simp only [pu])
 refine detL undef [boxE (b + 1 + 1 + 1), boxZ (b + 1 + 1)] (h1 := fun Wx hSw => by (have hz := hSw.box (b := (b + 1 + 1)) (o := objZ) 1 rfl; refine useZ3 hz fun z0 z1 z2 y0 y1 y2 => ?_; go_simp; exact ⟨rfl, hSw.set3 1 rfl (.int .i64 0) (.int .i64 0) (.string ⟨#[]⟩)⟩)) (h2 := ?_)
 simp only [pu]
 refine detL undef [boxN (b + 1 + 1 + 1) typeError, boxZ (b + 1 + 1)] (h1 := fun Wx hSw => by (have hz := hSw.box (b := (b + 1 + 1 + 1)) (o := objE) 0 rfl; refine useZ5 hz fun z0 z1 z2 z3 z4 y0 y1 y2 y3 y4 => ?_; go_simp; exact ⟨rfl, hSw.set5 0 rfl (.string typeError) (.int .i64 0) (.int .i64 0) (.string ⟨#[]⟩) (.bool false)⟩)) (h2 := ?_)
 simp only [pu]
 intro w4 S
 refine useR3 (S.box (b := b + 1 + 1) (o := objZ) 1 rfl) fun r0 r1 r2 => ?_
 refine useR5 (S.box (b := b + 1 + 1 + 1) (o := objN typeError) 0 rfl) fun r3 r4 r5 r6 r7 => ?_
 replace S := Lib.hid S
 repeat (first | go_values | go_skip | go_guarded | go_step)
 refine bodyPost_ret (v := .tuple #[zeroV, excN typeError]) ?_ ?_ ?_
 ·
  simp [results, Tryz.results17, go_sem, r0, r1, r2, r3, r4, r5, r6, r7]
 ·
  rfl
 refine ⟨rfl, ?_⟩
 replace S := S.out
 rw [HBS.out] at S
 exact S.tail.tail.tail.tail
theorem idx_w2 (S : Sep w Rs W) (i : Nat) (hi : Rs[i]? = some (heapR h H)) (x y : V) (hx3 : ¬ x.kind = 3) (hr : H.rowB x = true) (hd : ¬ H.kind x = 3) (hy : ¬ y.kind = 2) : Calls Tryz.prog 17 #[.pointer (some ⟨h, 0, none⟩), .agg #[.int .i64 x.kind, .int .i64 x.n, .string x.s], .agg #[.int .i64 y.kind, .int .i64 y.n, .string y.s]] W fun e W' => e = .returned (.tuple #[zeroV, excN typeError]) ∧ Sep w Rs W' := by
 have hx4 : (x.kind == 3) = false := by simpa using hx3
 have hy2 : (y.kind == 2) = false := by simpa using hy
 obtain ⟨kx, hK⟩ : ∃ k, H.kind x = k := ⟨_, rfl⟩
 have hkd : (kx == 3) = false := by rw [← hK]; simpa using hd
 have HK := Lib.hid hK
 have HR := Lib.hid hr
 clear hx3 hK hr hd hy
 obtain ⟨b, hb⟩ : ∃ gx_, (W.heap.size) = gx_ := ⟨_, rfl⟩
 replace S := ((((S.alloc (.cells #[.int .i64 x.kind, .int .i64 x.n, .string x.s] 24)).alloc (.cells #[.int .i64 y.kind, .int .i64 y.n, .string y.s] 24)).alloc (.cells #[.int .i64 0, .int .i64 0, .string ⟨#[]⟩] 24)).alloc (.cells #[.string ⟨#[]⟩, .int .i64 0, .int .i64 0, .string ⟨#[]⟩, .bool false] 33))
 simp only [World.size_alloc, hb] at S
 obtain ⟨bA, hbs⟩ : ∃ l, l = boxV (b + 1) y :: boxV b x :: Rs := ⟨_, rfl⟩
 have HBS := Lib.hid hbs
 replace S := enterP (w := w) (all := [boxE (b + 1 + 1 + 1), boxZ (b + 1 + 1), boxV (b + 1) y, boxV b x]) (E := [boxE (b + 1 + 1 + 1), boxZ (b + 1 + 1)]) (B := [boxV (b + 1) y, boxV b x]) (Rs := Rs) S hbs (perm_of [0, 1, 2, 3] (by show (List.range' 0 4).Perm [0, 1, 2, 3]; decide) (by rfl))
 have C1 := baseC3 (w := w) (b := b + 1) hbs 0 rfl
 have C0 := baseC3 (w := w) (b := b) hbs 1 rfl
 clear hbs
 replace S := Lib.hid S
 go_enter Tryz.func17, Tryz.ntmps17
 go_upto_region 1 with fail
 try simp only [World.size_alloc, hb]
 clear hb
 refine regionL (E := [boxE (b + 1 + 1 + 1), boxZ (b + 1 + 1)]) (base := bA) S.out ?_
 clear S
 refine quietL ?_
 simp only [pu]
 refine quietLC C0 ?_
 simp only [pu]
 iterate 2 (refine quietL ?_; simp only [pu])
 iterate 3 (refine skipL ?_; simp only [pu])
 iterate 2 (refine quietL ?_; simp only [pu])
 intro w1 S
 replace S := Lib.hid S
 have KR : QuietC w bA 84 #[hpV h, agV x] (.bool true) := Lib.hid fun W Q T => by
  rw [HBS.out] at T ⊢
  exact row_ok T (Q.length + 2 + i) (atI2 hi) x _ HR.out
 go_upto_region 3 with fail
 refine regionL (E := [boxE (b + 1 + 1 + 1), boxZ (b + 1 + 1)]) (base := bA) S.out ?_
 clear S
 refine quietL ?_
 simp only [pu]
 refine quietLC C0 ?_
 simp only [pu]
 refine quietLK KR ?_
 simp only [pu]
 iterate 2 (refine quietL ?_; simp only [pu])
 refine quietLC C1 ?_
 simp only [pu]
 iterate 3 (refine quietL ?_; simp only [pu])
 intro w2 S
 replace S := Lib.hid S
 have KK : QuietC w bA 72 #[hpV h, agV x] (.int .i64 kx) := Lib.hid fun W Q T => by
  rw [HBS.out] at T ⊢
  exact kind_at T (Q.length + 2 + i) (atI2 hi) x kx HK.out
 go_upto_region 9 with fail
 refine regionL (E := [boxE (b + 1 + 1 + 1), boxZ (b + 1 + 1)]) (base := bA) S.out ?_
 clear S
 refine quietL ?_
 simp only [pu]
 refine quietLC C0 ?_
 simp only [pu]
 refine quietLK KK ?_
 simp only [pu]
 iterate 2 (refine quietL ?_; simp only [pu])
 iterate 2 (refine skipL ?_; simp only [pu])
 iterate 2 (refine quietL ?_; simp only [pu])
 intro w3 S
 replace S := Lib.hid S
 have KW : QuietC w bA 46 #[] (.tuple #[zeroV, excN typeError]) := Lib.hid fun W Q T => by
  exact wrong_ok T
 go_upto_region 14 with fail
 refine regionL (E := [boxE (b + 1 + 1 + 1), boxZ (b + 1 + 1)]) (base := bA) S.out ?_
 clear S
 refine quietLK KW ?_
 simp only [pu]
 iterate 2 (refine quietL ?_; simp only [pu])
 refine detL undef [boxE (b + 1 + 1 + 1), boxZ (b + 1 + 1)] (h1 := fun Wx hSw => by (have hz := hSw.box (b := (b + 1 + 1)) (o := objZ) 1 rfl; refine useZ3 hz fun z0 z1 z2 y0 y1 y2 => ?_; go_simp; exact ⟨rfl, hSw.set3 1 rfl (.int .i64 0) (.int .i64 0) (.string ⟨#[]⟩)⟩)) (h2 := ?_)
 simp only [pu]
 refine detL undef [boxN (b + 1 + 1 + 1) typeError, boxZ (b + 1 + 1)] (h1 := fun Wx hSw => by (have hz := hSw.box (b := (b + 1 + 1 + 1)) (o := objE) 0 rfl; refine useZ5 hz fun z0 z1 z2 z3 z4 y0 y1 y2 y3 y4 => ?_; go_simp; exact ⟨rfl, hSw.set5 0 rfl (.string typeError) (.int .i64 0) (.int .i64 0) (.string ⟨#[]⟩) (.bool false)⟩)) (h2 := ?_)
 simp only [pu]
 intro w4 S
 refine useR3 (S.box (b := b + 1 + 1) (o := objZ) 1 rfl) fun r0 r1 r2 => ?_
 refine useR5 (S.box (b := b + 1 + 1 + 1) (o := objN typeError) 0 rfl) fun r3 r4 r5 r6 r7 => ?_
 replace S := Lib.hid S
 repeat (first | go_values | go_skip | go_guarded | go_step)
 refine bodyPost_ret (v := .tuple #[zeroV, excN typeError]) ?_ ?_ ?_
 ·
  simp [results, Tryz.results17, go_sem, r0, r1, r2, r3, r4, r5, r6, r7]
 ·
  rfl
 refine ⟨rfl, ?_⟩
 replace S := S.out
 rw [HBS.out] at S
 exact S.tail.tail.tail.tail
theorem idx_w3 (S : Sep w Rs W) (i : Nat) (hi : Rs[i]? = some (heapR h H)) (x y : V) (hx3 : ¬ x.kind = 3) (hr : H.rowB x = false) (hd : H.kind x = 3) (hk : y.isKey = false) : Calls Tryz.prog 17 #[.pointer (some ⟨h, 0, none⟩), .agg #[.int .i64 x.kind, .int .i64 x.n, .string x.s], .agg #[.int .i64 y.kind, .int .i64 y.n, .string y.s]] W fun e W' => e = .returned (.tuple #[zeroV, excN typeError]) ∧ Sep w Rs W' := by
 have hx4 : (x.kind == 3) = false := by simpa using hx3
 obtain ⟨kx, hK⟩ : ∃ k, H.kind x = k := ⟨_, rfl⟩
 have hkd : (kx == 3) = true := by rw [← hK]; simp [hd]
 have HK := Lib.hid hK
 have HR := Lib.hid hr
 have HKEY := Lib.hid hk
 clear hx3 hK hr hd hk
 obtain ⟨b, hb⟩ : ∃ gx_, (W.heap.size) = gx_ := ⟨_, rfl⟩
 replace S := ((((S.alloc (.cells #[.int .i64 x.kind, .int .i64 x.n, .string x.s] 24)).alloc (.cells #[.int .i64 y.kind, .int .i64 y.n, .string y.s] 24)).alloc (.cells #[.int .i64 0, .int .i64 0, .string ⟨#[]⟩] 24)).alloc (.cells #[.string ⟨#[]⟩, .int .i64 0, .int .i64 0, .string ⟨#[]⟩, .bool false] 33))
 simp only [World.size_alloc, hb] at S
 obtain ⟨bA, hbs⟩ : ∃ l, l = boxV (b + 1) y :: boxV b x :: Rs := ⟨_, rfl⟩
 have HBS := Lib.hid hbs
 replace S := enterP (w := w) (all := [boxE (b + 1 + 1 + 1), boxZ (b + 1 + 1), boxV (b + 1) y, boxV b x]) (E := [boxE (b + 1 + 1 + 1), boxZ (b + 1 + 1)]) (B := [boxV (b + 1) y, boxV b x]) (Rs := Rs) S hbs (perm_of [0, 1, 2, 3] (by show (List.range' 0 4).Perm [0, 1, 2, 3]; decide) (by rfl))
 have C1 := baseC3 (w := w) (b := b + 1) hbs 0 rfl
 have C0 := baseC3 (w := w) (b := b) hbs 1 rfl
 clear hbs
 replace S := Lib.hid S
 go_enter Tryz.func17, Tryz.ntmps17
 go_upto_region 1 with fail
 try simp only [World.size_alloc, hb]
 clear hb
 refine regionL (E := [boxE (b + 1 + 1 + 1), boxZ (b + 1 + 1)]) (base := bA) S.out ?_
 clear S
 refine quietL ?_
 simp only [pu]
 refine quietLC C0 ?_
 simp only [pu]
 iterate 2 (refine quietL ?_; simp only [pu])
 iterate 3 (refine skipL ?_; simp only [pu])
 iterate 2 (refine quietL ?_; simp only [pu])
 intro w1 S
 replace S := Lib.hid S
 have KR : QuietC w bA 84 #[hpV h, agV x] (.bool false) := Lib.hid fun W Q T => by
  rw [HBS.out] at T ⊢
  exact row_ok T (Q.length + 2 + i) (atI2 hi) x _ HR.out
 go_upto_region 3 with fail
 refine regionL (E := [boxE (b + 1 + 1 + 1), boxZ (b + 1 + 1)]) (base := bA) S.out ?_
 clear S
 refine quietL ?_
 simp only [pu]
 refine quietLC C0 ?_
 simp only [pu]
 refine quietLK KR ?_
 simp only [pu]
 refine quietL ?_
 simp only [pu]
 iterate 3 (refine skipL ?_; simp only [pu])
 iterate 2 (refine quietL ?_; simp only [pu])
 intro w2 S
 replace S := Lib.hid S
 have KK : QuietC w bA 72 #[hpV h, agV x] (.int .i64 kx) := Lib.hid fun W Q T => by
  rw [HBS.out] at T ⊢
  exact kind_at T (Q.length + 2 + i) (atI2 hi) x kx HK.out
 have KY : QuietC w bA 89 #[agV y] (.bool false) := Lib.hid fun W Q T => by
  have hh := dict_key W y
  rw [HKEY.out] at hh
  exact hh.mono fun e W' ⟨e1, e2⟩ => ⟨e1, T.later e2⟩
 go_upto_region 9 with fail
 refine regionL (E := [boxE (b + 1 + 1 + 1), boxZ (b + 1 + 1)]) (base := bA) S.out ?_
 clear S
 refine quietL ?_
 simp only [pu]
 refine quietLC C0 ?_
 simp only [pu]
 refine quietLK KK ?_
 simp only [pu]
 iterate 2 (refine quietL ?_; simp only [pu])
 refine quietLC C1 ?_
 simp only [pu]
 refine quietLK KY ?_
 simp only [pu]
 iterate 2 (refine quietL ?_; simp only [pu])
 intro w3 S
 replace S := Lib.hid S
 have KW : QuietC w bA 46 #[] (.tuple #[zeroV, excN typeError]) := Lib.hid fun W Q T => by
  exact wrong_ok T
 go_upto_region 14 with fail
 refine regionL (E := [boxE (b + 1 + 1 + 1), boxZ (b + 1 + 1)]) (base := bA) S.out ?_
 clear S
 refine quietLK KW ?_
 simp only [pu]
 iterate 2 (refine quietL ?_; simp only [pu])
 refine detL undef [boxE (b + 1 + 1 + 1), boxZ (b + 1 + 1)] (h1 := fun Wx hSw => by (have hz := hSw.box (b := (b + 1 + 1)) (o := objZ) 1 rfl; refine useZ3 hz fun z0 z1 z2 y0 y1 y2 => ?_; go_simp; exact ⟨rfl, hSw.set3 1 rfl (.int .i64 0) (.int .i64 0) (.string ⟨#[]⟩)⟩)) (h2 := ?_)
 simp only [pu]
 refine detL undef [boxN (b + 1 + 1 + 1) typeError, boxZ (b + 1 + 1)] (h1 := fun Wx hSw => by (have hz := hSw.box (b := (b + 1 + 1 + 1)) (o := objE) 0 rfl; refine useZ5 hz fun z0 z1 z2 z3 z4 y0 y1 y2 y3 y4 => ?_; go_simp; exact ⟨rfl, hSw.set5 0 rfl (.string typeError) (.int .i64 0) (.int .i64 0) (.string ⟨#[]⟩) (.bool false)⟩)) (h2 := ?_)
 simp only [pu]
 intro w4 S
 refine useR3 (S.box (b := b + 1 + 1) (o := objZ) 1 rfl) fun r0 r1 r2 => ?_
 refine useR5 (S.box (b := b + 1 + 1 + 1) (o := objN typeError) 0 rfl) fun r3 r4 r5 r6 r7 => ?_
 replace S := Lib.hid S
 repeat (first | go_values | go_skip | go_guarded | go_step)
 refine bodyPost_ret (v := .tuple #[zeroV, excN typeError]) ?_ ?_ ?_
 ·
  simp [results, Tryz.results17, go_sem, r0, r1, r2, r3, r4, r5, r6, r7]
 ·
  rfl
 refine ⟨rfl, ?_⟩
 replace S := S.out
 rw [HBS.out] at S
 exact S.tail.tail.tail.tail
theorem idx_w4 (S : Sep w Rs W) (i : Nat) (hi : Rs[i]? = some (heapR h H)) (x y : V) (hx3 : ¬ x.kind = 3) (hr : H.rowB x = false) (hd : ¬ H.kind x = 3) : Calls Tryz.prog 17 #[.pointer (some ⟨h, 0, none⟩), .agg #[.int .i64 x.kind, .int .i64 x.n, .string x.s], .agg #[.int .i64 y.kind, .int .i64 y.n, .string y.s]] W fun e W' => e = .returned (.tuple #[zeroV, excN typeError]) ∧ Sep w Rs W' := by
 have hx4 : (x.kind == 3) = false := by simpa using hx3
 obtain ⟨kx, hK⟩ : ∃ k, H.kind x = k := ⟨_, rfl⟩
 have hkd : (kx == 3) = false := by rw [← hK]; simpa using hd
 have HK := Lib.hid hK
 have HR := Lib.hid hr
 clear hx3 hK hr hd
 obtain ⟨b, hb⟩ : ∃ gx_, (W.heap.size) = gx_ := ⟨_, rfl⟩
 replace S := ((((S.alloc (.cells #[.int .i64 x.kind, .int .i64 x.n, .string x.s] 24)).alloc (.cells #[.int .i64 y.kind, .int .i64 y.n, .string y.s] 24)).alloc (.cells #[.int .i64 0, .int .i64 0, .string ⟨#[]⟩] 24)).alloc (.cells #[.string ⟨#[]⟩, .int .i64 0, .int .i64 0, .string ⟨#[]⟩, .bool false] 33))
 simp only [World.size_alloc, hb] at S
 obtain ⟨bA, hbs⟩ : ∃ l, l = boxV (b + 1) y :: boxV b x :: Rs := ⟨_, rfl⟩
 have HBS := Lib.hid hbs
 replace S := enterP (w := w) (all := [boxE (b + 1 + 1 + 1), boxZ (b + 1 + 1), boxV (b + 1) y, boxV b x]) (E := [boxE (b + 1 + 1 + 1), boxZ (b + 1 + 1)]) (B := [boxV (b + 1) y, boxV b x]) (Rs := Rs) S hbs (perm_of [0, 1, 2, 3] (by show (List.range' 0 4).Perm [0, 1, 2, 3]; decide) (by rfl))
 have C1 := baseC3 (w := w) (b := b + 1) hbs 0 rfl
 have C0 := baseC3 (w := w) (b := b) hbs 1 rfl
 clear hbs
 replace S := Lib.hid S
 go_enter Tryz.func17, Tryz.ntmps17
 go_upto_region 1 with fail
 try simp only [World.size_alloc, hb]
 clear hb
 refine regionL (E := [boxE (b + 1 + 1 + 1), boxZ (b + 1 + 1)]) (base := bA) S.out ?_
 clear S
 refine quietL ?_
 simp only [pu]
 refine quietLC C0 ?_
 simp only [pu]
 iterate 2 (refine quietL ?_; simp only [pu])
 iterate 3 (refine skipL ?_; simp only [pu])
 iterate 2 (refine quietL ?_; simp only [pu])
 intro w1 S
 replace S := Lib.hid S
 have KR : QuietC w bA 84 #[hpV h, agV x] (.bool false) := Lib.hid fun W Q T => by
  rw [HBS.out] at T ⊢
  exact row_ok T (Q.length + 2 + i) (atI2 hi) x _ HR.out
 go_upto_region 3 with fail
 refine regionL (E := [boxE (b + 1 + 1 + 1), boxZ (b + 1 + 1)]) (base := bA) S.out ?_
 clear S
 refine quietL ?_
 simp only [pu]
 refine quietLC C0 ?_
 simp only [pu]
 refine quietLK KR ?_
 simp only [pu]
 refine quietL ?_
 simp only [pu]
 iterate 3 (refine skipL ?_; simp only [pu])
 iterate 2 (refine quietL ?_; simp only [pu])
 intro w2 S
 replace S := Lib.hid S
 have KK : QuietC w bA 72 #[hpV h, agV x] (.int .i64 kx) := Lib.hid fun W Q T => by
  rw [HBS.out] at T ⊢
  exact kind_at T (Q.length + 2 + i) (atI2 hi) x kx HK.out
 go_upto_region 9 with fail
 refine regionL (E := [boxE (b + 1 + 1 + 1), boxZ (b + 1 + 1)]) (base := bA) S.out ?_
 clear S
 refine quietL ?_
 simp only [pu]
 refine quietLC C0 ?_
 simp only [pu]
 refine quietLK KK ?_
 simp only [pu]
 iterate 2 (refine quietL ?_; simp only [pu])
 iterate 2 (refine skipL ?_; simp only [pu])
 iterate 2 (refine quietL ?_; simp only [pu])
 intro w3 S
 replace S := Lib.hid S
 have KW : QuietC w bA 46 #[] (.tuple #[zeroV, excN typeError]) := Lib.hid fun W Q T => by
  exact wrong_ok T
 go_upto_region 14 with fail
 refine regionL (E := [boxE (b + 1 + 1 + 1), boxZ (b + 1 + 1)]) (base := bA) S.out ?_
 clear S
 refine quietLK KW ?_
 simp only [pu]
 iterate 2 (refine quietL ?_; simp only [pu])
 refine detL undef [boxE (b + 1 + 1 + 1), boxZ (b + 1 + 1)] (h1 := fun Wx hSw => by (have hz := hSw.box (b := (b + 1 + 1)) (o := objZ) 1 rfl; refine useZ3 hz fun z0 z1 z2 y0 y1 y2 => ?_; go_simp; exact ⟨rfl, hSw.set3 1 rfl (.int .i64 0) (.int .i64 0) (.string ⟨#[]⟩)⟩)) (h2 := ?_)
 simp only [pu]
 refine detL undef [boxN (b + 1 + 1 + 1) typeError, boxZ (b + 1 + 1)] (h1 := fun Wx hSw => by (have hz := hSw.box (b := (b + 1 + 1 + 1)) (o := objE) 0 rfl; refine useZ5 hz fun z0 z1 z2 z3 z4 y0 y1 y2 y3 y4 => ?_; go_simp; exact ⟨rfl, hSw.set5 0 rfl (.string typeError) (.int .i64 0) (.int .i64 0) (.string ⟨#[]⟩) (.bool false)⟩)) (h2 := ?_)
 simp only [pu]
 intro w4 S
 refine useR3 (S.box (b := b + 1 + 1) (o := objZ) 1 rfl) fun r0 r1 r2 => ?_
 refine useR5 (S.box (b := b + 1 + 1 + 1) (o := objN typeError) 0 rfl) fun r3 r4 r5 r6 r7 => ?_
 replace S := Lib.hid S
 repeat (first | go_values | go_skip | go_guarded | go_step)
 refine bodyPost_ret (v := .tuple #[zeroV, excN typeError]) ?_ ?_ ?_
 ·
  simp [results, Tryz.results17, go_sem, r0, r1, r2, r3, r4, r5, r6, r7]
 ·
  rfl
 refine ⟨rfl, ?_⟩
 replace S := S.out
 rw [HBS.out] at S
 exact S.tail.tail.tail.tail
end
end Go.Proofs.YtijlebhoapdfnaaGreat
