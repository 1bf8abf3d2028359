import Derived.Test.YtijlebhoapdfnaaGreatOprN
/- ch 16: str, lost, Index. -/
namespace Go.Proofs.YtijlebhoapdfnaaGreat
set_option linter.unusedSimpArgs false
open Go.RowKit
set_option linter.unusedVariables false
section
variable {w W : World} {Rs : List Res} {h : Nat} {H : HeapM}
theorem idx_get (S : Sep w Rs W) (i : Nat) (hi : Rs[i]? = some (heapR h H)) (v k x : V) (hx : H.get v k = some x) : Calls Tryz.prog 80 #[.pointer (some ⟨h, 0, none⟩), .agg #[.int .i64 v.kind, .int .i64 v.n, .string v.s], .agg #[.int .i64 k.kind, .int .i64 k.n, .string k.s]] W fun e W' => e = .returned (.tuple #[.agg #[.int .i64 x.kind, .int .i64 x.n, .string x.s], .bool true]) ∧ Sep w Rs W' := by
 have hh := S.get_ i hi v k
 rw [hx] at hh
 exact hh.mono fun e W' ⟨e1, e2, _⟩ => ⟨e1, e2⟩
theorem idx_get_no (S : Sep w Rs W) (i : Nat) (hi : Rs[i]? = some (heapR h H)) (v k : V) (hx : H.get v k = none) : Calls Tryz.prog 80 #[.pointer (some ⟨h, 0, none⟩), .agg #[.int .i64 v.kind, .int .i64 v.n, .string v.s], .agg #[.int .i64 k.kind, .int .i64 k.n, .string k.s]] W fun e W' => e = .returned (.tuple #[zeroV, .bool false]) ∧ Sep w Rs W' := by
 have hh := S.get_ i hi v k
 rw [hx] at hh
 exact hh.mono fun e W' ⟨e1, e2, _⟩ => ⟨e1, e2⟩
end
end Go.Proofs.YtijlebhoapdfnaaGreat
/- ch 16: in, of dicts; what in refuses. -/
set_option maxRecDepth 100000
set_option maxHeartbeats 12800000
namespace Go.Proofs.YtijlebhoapdfnaaGreat
set_option linter.unusedSimpArgs false
open Go.RowKit
set_option linter.unusedVariables false
section
variable {w W : World} {Rs : List Res} {h : Nat} {H : HeapM}
theorem in_dict (S : Sep w Rs W) (i : Nat) (hi : Rs[i]? = some (heapR h H)) (x y v : V) (hs : ¬ x.kind = 3) (hy : ¬ y.kind = 3) (hr : H.rowB y = false) (hd : H.kind y = 3) (hk : x.isKey = true) (hv : H.get y x = some v) : Calls Tryz.prog 115 #[.pointer (some ⟨h, 0, none⟩), .agg #[.int .i64 x.kind, .int .i64 x.n, .string x.s], .agg #[.int .i64 y.kind, .int .i64 y.n, .string y.s]] W fun e W' => e = .returned (.tuple #[.bool true, excZ]) ∧ Sep w Rs W' := by
 have e1 : (x.kind == 3) = false := by simpa using hs
 obtain ⟨ky, hK⟩ : ∃ k, H.kind y = k := ⟨_, rfl⟩
 have e3 : (ky == 3) = true := by rw [← hK]; simp [hd]
 have HK := Lib.hid hK
 have HR := Lib.hid hr
 have HKEY := Lib.hid hk
 have HV := Lib.hid hv
 clear hs hy hK hr hd hk hv
 obtain ⟨b, hb⟩ : ∃ gx_, (W.heap.size) = gx_ := ⟨_, rfl⟩
 replace S := (((S.alloc (.cells #[.int .i64 x.kind, .int .i64 x.n, .string x.s] 24)).alloc (.cells #[.int .i64 y.kind, .int .i64 y.n, .string y.s] 24)).alloc (.cells #[.string ⟨#[]⟩, .int .i64 0, .int .i64 0, .string ⟨#[]⟩, .bool false] 33))
 simp only [World.size_alloc, hb] at S
 obtain ⟨bA, hbs⟩ : ∃ l, l = boxV (b + 1) y :: boxV b x :: Rs := ⟨_, rfl⟩
 have HBS := Lib.hid hbs
 replace S := enterP (w := w) (all := [boxE (b + 1 + 1), boxV (b + 1) y, boxV b x]) (E := [boxE (b + 1 + 1)]) (B := [boxV (b + 1) y, boxV b x]) (Rs := Rs) S hbs (perm_of [0, 1, 2] (by show (List.range' 0 3).Perm [0, 1, 2]; decide) (by rfl))
 have C1 := baseC3 (w := w) (b := b + 1) hbs 0 rfl
 have C0 := baseC3 (w := w) (b := b) hbs 1 rfl
 clear hbs
 replace S := Lib.hid S
 go_enter Tryz.func115, Tryz.ntmps115
 go_upto_region 1 with fail
 try simp only [World.size_alloc, hb]
 clear hb
 refine regionL (E := [boxE (b + 1 + 1)]) (base := bA) S.out ?_
 clear S
 refine quietL ?_
 simp only [pu]
 refine quietLC C0 ?_
 simp only [pu]
 iterate 2 (refine quietL ?_; simp only [pu])
 iterate 3 (refine skipL ?_; simp only [pu])
 iterate 2 (refine quietL ?_; simp only [pu])
 intro w1 S
 replace S := Lib.hid S
 have KR : QuietC w bA 84 #[hpV h, agV y] (.bool false) := Lib.hid fun W Q T => by
  rw [HBS.out] at T ⊢
  exact row_ok T (Q.length + 2 + i) (atI2 hi) y _ HR.out
 go_upto_region 3 with fail
 refine regionL (E := [boxE (b + 1 + 1)]) (base := bA) S.out ?_
 clear S
 refine quietL ?_
 simp only [pu]
 refine quietLC C1 ?_
 simp only [pu]
 refine quietLK KR ?_
 simp only [pu]
 refine quietL ?_
 simp only [pu]
 intro w2 S
 replace S := Lib.hid S
 have KK : QuietC w bA 72 #[hpV h, agV y] (.int .i64 ky) := Lib.hid fun W Q T => by
  rw [HBS.out] at T ⊢
  exact kind_at T (Q.length + 2 + i) (atI2 hi) y ky HK.out
 have KY : QuietC w bA 89 #[agV x] (.bool true) := Lib.hid fun W Q T => by
  have hh := dict_key W x
  rw [HKEY.out] at hh
  exact hh.mono fun e W' ⟨e1, e2⟩ => ⟨e1, T.later e2⟩
 go_upto_region 12 with fail
 refine regionL (E := [boxE (b + 1 + 1)]) (base := bA) S.out ?_
 clear S
 refine quietL ?_
 simp only [pu]
 refine quietLC C1 ?_
 simp only [pu]
 refine quietLK KK ?_
 simp only [pu]
 iterate 2 (refine quietL ?_; simp only [pu])
 refine quietLC C0 ?_
 simp only [pu]
 refine quietLK KY ?_
 simp only [pu]
 iterate 2 (refine quietL ?_; simp only [pu])
 intro w3 S
 replace S := Lib.hid S
 have KG : QuietC w bA 80 #[hpV h, agV y, agV x] (.tuple #[.agg #[.int .i64 v.kind, .int .i64 v.n, .string v.s], .bool true]) := Lib.hid fun W Q T => by
  rw [HBS.out] at T ⊢
  exact idx_get T (Q.length + 2 + i) (atI2 hi) y x v HV.out
 go_upto_region 13 with fail
 refine regionL (E := [emptyR, boxE (b + 1 + 1)]) (base := bA) (Sep.putE S.out) ?_
 clear S
 refine quietL ?_
 simp only [pu]
 refine quietLC C1 ?_
 simp only [pu]
 refine quietLC C0 ?_
 simp only [pu]
 refine quietLK KG ?_
 simp only [pu]
 iterate 3 (refine quietL ?_; simp only [pu])
 refine allocL 0 rfl (fun q => .pointer (some ⟨q, 0, none⟩)) (.cells #[.int .i64 0, .int .i64 0, .string ⟨#[]⟩] 24) (h1 := fun Wx => by go_simp) (h2 := fun qL1 => ?_)
 simp only [pu]
 try simp only [List.set_cons_zero, List.set_cons_succ]
 refine detL undef [boxV qL1 v, boxE (b + 1 + 1)] (h1 := fun Wx hSw => by (have hz := hSw.box (b := qL1) (o := objZ) 0 rfl; refine useZ3 hz fun z0 z1 z2 y0 y1 y2 => ?_; go_simp; exact ⟨rfl, hSw.set3 0 rfl (.int .i64 v.kind) (.int .i64 v.n) (.string v.s)⟩)) (h2 := ?_)
 simp only [pu]
 refine quietL ?_
 simp only [pu]
 intro w4 S
 replace S := Lib.hid S
 go_upto_region 14 with fail
 refine regionL (E := [boxV qL1 v, boxE (b + 1 + 1)]) (base := bA) S.out ?_
 clear S
 iterate 3 (refine quietL ?_; simp only [pu])
 refine detL undef [boxV qL1 v, boxE (b + 1 + 1)] (h1 := fun Wx hSw => by (have hz := hSw.box (b := (b + 1 + 1)) (o := objE) 1 rfl; refine useZ5 hz fun z0 z1 z2 z3 z4 y0 y1 y2 y3 y4 => ?_; go_simp; exact ⟨rfl, hSw.set5 1 rfl (.string ⟨#[]⟩) (.int .i64 0) (.int .i64 0) (.string ⟨#[]⟩) (.bool false)⟩)) (h2 := ?_)
 simp only [pu]
 intro w5 S
 refine useR5 (S.box (b := b + 1 + 1) (o := objE) 1 rfl) fun r0 r1 r2 r3 r4 => ?_
 replace S := Lib.hid S
 repeat (first | go_values | go_skip | go_guarded | go_step)
 refine bodyPost_ret (v := .tuple #[.bool true, excZ]) ?_ ?_ ?_
 ·
  simp [results, Tryz.results115, go_sem, r0, r1, r2, r3, r4]
 ·
  rfl
 refine ⟨rfl, ?_⟩
 replace S := S.out
 rw [HBS.out] at S
 exact S.tail.tail.tail.tail
theorem in_dict_no (S : Sep w Rs W) (i : Nat) (hi : Rs[i]? = some (heapR h H)) (x y : V) (hs : ¬ x.kind = 3) (hy : ¬ y.kind = 3) (hr : H.rowB y = false) (hd : H.kind y = 3) (hk : x.isKey = true) (hv : H.get y x = none) : Calls Tryz.prog 115 #[.pointer (some ⟨h, 0, none⟩), .agg #[.int .i64 x.kind, .int .i64 x.n, .string x.s], .agg #[.int .i64 y.kind, .int .i64 y.n, .string y.s]] W fun e W' => e = .returned (.tuple #[.bool false, excZ]) ∧ Sep w Rs W' := by
 have e1 : (x.kind == 3) = false := by simpa using hs
 obtain ⟨ky, hK⟩ : ∃ k, H.kind y = k := ⟨_, rfl⟩
 have e3 : (ky == 3) = true := by rw [← hK]; simp [hd]
 have HK := Lib.hid hK
 have HR := Lib.hid hr
 have HKEY := Lib.hid hk
 have HV := Lib.hid hv
 clear hs hy hK hr hd hk hv
 obtain ⟨b, hb⟩ : ∃ gx_, (W.heap.size) = gx_ := ⟨_, rfl⟩
 replace S := (((S.alloc (.cells #[.int .i64 x.kind, .int .i64 x.n, .string x.s] 24)).alloc (.cells #[.int .i64 y.kind, .int .i64 y.n, .string y.s] 24)).alloc (.cells #[.string ⟨#[]⟩, .int .i64 0, .int .i64 0, .string ⟨#[]⟩, .bool false] 33))
 simp only [World.size_alloc, hb] at S
 obtain ⟨bA, hbs⟩ : ∃ l, l = boxV (b + 1) y :: boxV b x :: Rs := ⟨_, rfl⟩
 have HBS := Lib.hid hbs
 replace S := enterP (w := w) (all := [boxE (b + 1 + 1), boxV (b + 1) y, boxV b x]) (E := [boxE (b + 1 + 1)]) (B := [boxV (b + 1) y, boxV b x]) (Rs := Rs) S hbs (perm_of [0, 1, 2] (by show (List.range' 0 3).Perm [0, 1, 2]; decide) (by rfl))
 have C1 := baseC3 (w := w) (b := b + 1) hbs 0 rfl
 have C0 := baseC3 (w := w) (b := b) hbs 1 rfl
 clear hbs
 replace S := Lib.hid S
 go_enter Tryz.func115, Tryz.ntmps115
 go_upto_region 1 with fail
 try simp only [World.size_alloc, hb]
 clear hb
 refine regionL (E := [boxE (b + 1 + 1)]) (base := bA) S.out ?_
 clear S
 refine quietL ?_
 simp only [pu]
 refine quietLC C0 ?_
 simp only [pu]
 iterate 2 (refine quietL ?_; simp only [pu])
 iterate 3 (refine skipL ?_; simp only [pu])
 iterate 2 (refine quietL ?_; simp only [pu])
 intro w1 S
 replace S := Lib.hid S
 have KR : QuietC w bA 84 #[hpV h, agV y] (.bool false) := Lib.hid fun W Q T => by
  rw [HBS.out] at T ⊢
  exact row_ok T (Q.length + 2 + i) (atI2 hi) y _ HR.out
 go_upto_region 3 with fail
 refine regionL (E := [boxE (b + 1 + 1)]) (base := bA) S.out ?_
 clear S
 refine quietL ?_
 simp only [pu]
 refine quietLC C1 ?_
 simp only [pu]
 refine quietLK KR ?_
 simp only [pu]
 refine quietL ?_
 simp only [pu]
 intro w2 S
 replace S := Lib.hid S
 have KK : QuietC w bA 72 #[hpV h, agV y] (.int .i64 ky) := Lib.hid fun W Q T => by
  rw [HBS.out] at T ⊢
  exact kind_at T (Q.length + 2 + i) (atI2 hi) y ky HK.out
 have KY : QuietC w bA 89 #[agV x] (.bool true) := Lib.hid fun W Q T => by
  have hh := dict_key W x
  rw [HKEY.out] at hh
  exact hh.mono fun e W' ⟨e1, e2⟩ => ⟨e1, T.later e2⟩
 go_upto_region 12 with fail
 refine regionL (E := [boxE (b + 1 + 1)]) (base := bA) S.out ?_
 clear S
 refine quietL ?_
 simp only [pu]
 refine quietLC C1 ?_
 simp only [pu]
 refine quietLK KK ?_
 simp only [pu]
 iterate 2 (refine quietL ?_; simp only [pu])
 refine quietLC C0 ?_
 simp only [pu]
 refine quietLK KY ?_
 simp only [pu]
 iterate 2 (refine quietL ?_; simp only [pu])
 intro w3 S
 replace S := Lib.hid S
 have KG : QuietC w bA 80 #[hpV h, agV y, agV x] (.tuple #[zeroV, .bool false]) := Lib.hid fun W Q T => by
  rw [HBS.out] at T ⊢
  exact idx_get_no T (Q.length + 2 + i) (atI2 hi) y x HV.out
 go_upto_region 13 with fail
 refine regionL (E := [emptyR, boxE (b + 1 + 1)]) (base := bA) (Sep.putE S.out) ?_
 clear S
 refine quietL ?_
 simp only [pu]
 refine quietLC C1 ?_
 simp only [pu]
 refine quietLC C0 ?_
 simp only [pu]
 refine quietLK KG ?_
 simp only [pu]
 iterate 3 (refine quietL ?_; simp only [pu])
 refine allocL 0 rfl (fun q => .pointer (some ⟨q, 0, none⟩)) (.cells #[.int .i64 0, .int .i64 0, .string ⟨#[]⟩] 24) (h1 := fun Wx => by go_simp) (h2 := fun qL1 => ?_)
 simp only [pu]
 try simp only [List.set_cons_zero, List.set_cons_succ]
 refine detL undef [boxZ qL1, boxE (b + 1 + 1)] (h1 := fun Wx hSw => by (have hz := hSw.box (b := qL1) (o := objZ) 0 rfl; refine useZ3 hz fun z0 z1 z2 y0 y1 y2 => ?_; go_simp; exact ⟨rfl, hSw.set3 0 rfl (.int .i64 0) (.int .i64 0) (.string ⟨#[]⟩)⟩)) (h2 := ?_)
 simp only [pu]
 refine quietL ?_
 simp only [pu]
 intro w4 S
 replace S := Lib.hid S
 go_upto_region 14 with fail
 refine regionL (E := [boxZ qL1, boxE (b + 1 + 1)]) (base := bA) S.out ?_
 clear S
 iterate 3 (refine quietL ?_; simp only [pu])
 refine detL undef [boxZ qL1, boxE (b + 1 + 1)] (h1 := fun Wx hSw => by (have hz := hSw.box (b := (b + 1 + 1)) (o := objE) 1 rfl; refine useZ5 hz fun z0 z1 z2 z3 z4 y0 y1 y2 y3 y4 => ?_; go_simp; exact ⟨rfl, hSw.set5 1 rfl (.string ⟨#[]⟩) (.int .i64 0) (.int .i64 0) (.string ⟨#[]⟩) (.bool false)⟩)) (h2 := ?_)
 simp only [pu]
 intro w5 S
 refine useR5 (S.box (b := b + 1 + 1) (o := objE) 1 rfl) fun r0 r1 r2 r3 r4 => ?_
 replace S := Lib.hid S
 repeat (first | go_values | go_skip | go_guarded | go_step)
 refine bodyPost_ret (v := .tuple #[.bool false, excZ]) ?_ ?_ ?_
 ·
  simp [results, Tryz.results115, go_sem, r0, r1, r2, r3, r4]
 ·
  rfl
 refine ⟨rfl, ?_⟩
 replace S := S.out
 rw [HBS.out] at S
 exact S.tail.tail.tail.tail
theorem in_w2 (S : Sep w Rs W) (i : Nat) (hi : Rs[i]? = some (heapR h H)) (x y : V) (hs : ¬ x.kind = 3) (hy : ¬ y.kind = 3) (hr : H.rowB y = false) (hd : H.kind y = 3) (hk : x.isKey = false) : Calls Tryz.prog 115 #[.pointer (some ⟨h, 0, none⟩), .agg #[.int .i64 x.kind, .int .i64 x.n, .string x.s], .agg #[.int .i64 y.kind, .int .i64 y.n, .string y.s]] W fun e W' => e = .returned (.tuple #[.bool false, excN typeError]) ∧ Sep w Rs W' := by
 have e1 : (x.kind == 3) = false := by simpa using hs
 obtain ⟨ky, hK⟩ : ∃ k, H.kind y = k := ⟨_, rfl⟩
 have e3 : (ky == 3) = true := by rw [← hK]; simp [hd]
 have HK := Lib.hid hK
 have HR := Lib.hid hr
 have HKEY := Lib.hid hk
 clear hs hy hK hr hd hk
 obtain ⟨b, hb⟩ : ∃ gx_, (W.heap.size) = gx_ := ⟨_, rfl⟩
 replace S := (((S.alloc (.cells #[.int .i64 x.kind, .int .i64 x.n, .string x.s] 24)).alloc (.cells #[.int .i64 y.kind, .int .i64 y.n, .string y.s] 24)).alloc (.cells #[.string ⟨#[]⟩, .int .i64 0, .int .i64 0, .string ⟨#[]⟩, .bool false] 33))
 simp only [World.size_alloc, hb] at S
 obtain ⟨bA, hbs⟩ : ∃ l, l = boxV (b + 1) y :: boxV b x :: Rs := ⟨_, rfl⟩
 have HBS := Lib.hid hbs
 replace S := enterP (w := w) (all := [boxE (b + 1 + 1), boxV (b + 1) y, boxV b x]) (E := [boxE (b + 1 + 1)]) (B := [boxV (b + 1) y, boxV b x]) (Rs := Rs) S hbs (perm_of [0, 1, 2] (by show (List.range' 0 3).Perm [0, 1, 2]; decide) (by rfl))
 have C1 := baseC3 (w := w) (b := b + 1) hbs 0 rfl
 have C0 := baseC3 (w := w) (b := b) hbs 1 rfl
 clear hbs
 replace S := Lib.hid S
 go_enter Tryz.func115, Tryz.ntmps115
 go_upto_region 1 with fail
 try simp only [World.size_alloc, hb]
 clear hb
 refine regionL (E := [boxE (b + 1 + 1)]) (base := bA) S.out ?_
 clear S
 refine quietL ?_
 simp only [pu]
 refine quietLC C0 ?_
 simp only [pu]
 iterate 2 (refine quietL ?_; simp only [pu])
 iterate 3 (refine skipL ?_; simp only [pu])
 iterate 2 (refine quietL ?_; simp only [pu])
 intro w1 S
 replace S := Lib.hid S
 have KR : QuietC w bA 84 #[hpV h, agV y] (.bool false) := Lib.hid fun W Q T => by
  rw [HBS.out] at T ⊢
  exact row_ok T (Q.length + 2 + i) (atI2 hi) y _ HR.out
 go_upto_region 3 with fail
 refine regionL (E := [boxE (b + 1 + 1)]) (base := bA) S.out ?_
 clear S
 refine quietL ?_
 simp only [pu]
 refine quietLC C1 ?_
 simp only [pu]
 refine quietLK KR ?_
 simp only [pu]
 refine quietL ?_
 simp only [pu]
 intro w2 S
 replace S := Lib.hid S
 have KK : QuietC w bA 72 #[hpV h, agV y] (.int .i64 ky) := Lib.hid fun W Q T => by
  rw [HBS.out] at T ⊢
  exact kind_at T (Q.length + 2 + i) (atI2 hi) y ky HK.out
 have KY : QuietC w bA 89 #[agV x] (.bool false) := Lib.hid fun W Q T => by
  have hh := dict_key W x
  rw [HKEY.out] at hh
  exact hh.mono fun e W' ⟨e1, e2⟩ => ⟨e1, T.later e2⟩
 go_upto_region 12 with fail
 refine regionL (E := [boxE (b + 1 + 1)]) (base := bA) S.out ?_
 clear S
 refine quietL ?_
 simp only [pu]
 refine quietLC C1 ?_
 simp only [pu]
 refine quietLK KK ?_
 simp only [pu]
 iterate 2 (refine quietL ?_; simp only [pu])
 refine quietLC C0 ?_
 simp only [pu]
 refine quietLK KY ?_
 simp only [pu]
 iterate 2 (refine quietL ?_; simp only [pu])
 intro w3 S
 replace S := Lib.hid S
 have KQ : QuietC w bA 87 #[.string typeError] (excN typeError) := Lib.hid fun W Q T => by
  exact (raise_ok W _).mono fun e W' ⟨e1, e2⟩ => ⟨e1, T.later e2⟩
 go_upto_region 15 with fail
 refine regionL (E := [boxE (b + 1 + 1)]) (base := bA) S.out ?_
 clear S
 refine quietLK KQ ?_
 simp only [pu]
 refine quietL ?_
 simp only [pu]
 refine detL undef [boxN (b + 1 + 1) typeError] (h1 := fun Wx hSw => by (have hz := hSw.box (b := (b + 1 + 1)) (o := objE) 0 rfl; refine useZ5 hz fun z0 z1 z2 z3 z4 y0 y1 y2 y3 y4 => ?_; go_simp; exact ⟨rfl, hSw.set5 0 rfl (.string typeError) (.int .i64 0) (.int .i64 0) (.string ⟨#[]⟩) (.bool false)⟩)) (h2 := ?_)
 simp only [pu]
 intro w4 S
 refine useR5 (S.box (b := b + 1 + 1) (o := objN typeError) 0 rfl) fun r0 r1 r2 r3 r4 => ?_
 replace S := Lib.hid S
 repeat (first | go_values | go_skip | go_guarded | go_step)
 refine bodyPost_ret (v := .tuple #[.bool false, excN typeError]) ?_ ?_ ?_
 ·
  simp [results, Tryz.results115, go_sem, r0, r1, r2, r3, r4]
 ·
  rfl
 refine ⟨rfl, ?_⟩
 replace S := S.out
 rw [HBS.out] at S
 exact S.tail.tail.tail
theorem in_dicts (S : Sep w Rs W) (i : Nat) (hi : Rs[i]? = some (heapR h H)) (x y v : V) (hs : x.kind = 3) (hy : ¬ y.kind = 3) (hr : H.rowB y = false) (hd : H.kind y = 3) (hk : x.isKey = true) (hv : H.get y x = some v) : Calls Tryz.prog 115 #[.pointer (some ⟨h, 0, none⟩), .agg #[.int .i64 x.kind, .int .i64 x.n, .string x.s], .agg #[.int .i64 y.kind, .int .i64 y.n, .string y.s]] W fun e W' => e = .returned (.tuple #[.bool true, excZ]) ∧ Sep w Rs W' := by
 have e1 : (x.kind == 3) = true := by simp [hs]
 have e2 : (y.kind == 3) = false := by simpa using hy
 obtain ⟨ky, hK⟩ : ∃ k, H.kind y = k := ⟨_, rfl⟩
 have e3 : (ky == 3) = true := by rw [← hK]; simp [hd]
 have HK := Lib.hid hK
 have HR := Lib.hid hr
 have HKEY := Lib.hid hk
 have HV := Lib.hid hv
 clear hs hy hK hr hd hk hv
 obtain ⟨b, hb⟩ : ∃ gx_, (W.heap.size) = gx_ := ⟨_, rfl⟩
 replace S := (((S.alloc (.cells #[.int .i64 x.kind, .int .i64 x.n, .string x.s] 24)).alloc (.cells #[.int .i64 y.kind, .int .i64 y.n, .string y.s] 24)).alloc (.cells #[.string ⟨#[]⟩, .int .i64 0, .int .i64 0, .string ⟨#[]⟩, .bool false] 33))
 simp only [World.size_alloc, hb] at S
 obtain ⟨bA, hbs⟩ : ∃ l, l = boxV (b + 1) y :: boxV b x :: Rs := ⟨_, rfl⟩
 have HBS := Lib.hid hbs
 replace S := enterP (w := w) (all := [boxE (b + 1 + 1), boxV (b + 1) y, boxV b x]) (E := [boxE (b + 1 + 1)]) (B := [boxV (b + 1) y, boxV b x]) (Rs := Rs) S hbs (perm_of [0, 1, 2] (by show (List.range' 0 3).Perm [0, 1, 2]; decide) (by rfl))
 have C1 := baseC3 (w := w) (b := b + 1) hbs 0 rfl
 have C0 := baseC3 (w := w) (b := b) hbs 1 rfl
 clear hbs
 replace S := Lib.hid S
 go_enter Tryz.func115, Tryz.ntmps115
 go_upto_region 1 with fail
 try simp only [World.size_alloc, hb]
 clear hb
 refine regionL (E := [boxE (b + 1 + 1)]) (base := bA) S.out ?_
 clear S
 refine quietL ?_
 simp only [pu]
 refine quietLC C0 ?_
 simp only [pu]
 iterate 3 (refine quietL ?_; simp only [pu])
 refine quietLC C1 ?_
 simp only [pu]
 iterate 3 (refine quietL ?_; simp only [pu])
 intro w1 S
 replace S := Lib.hid S
 have KR : QuietC w bA 84 #[hpV h, agV y] (.bool false) := Lib.hid fun W Q T => by
  rw [HBS.out] at T ⊢
  exact row_ok T (Q.length + 2 + i) (atI2 hi) y _ HR.out
 go_upto_region 3 with fail
 refine regionL (E := [boxE (b + 1 + 1)]) (base := bA) S.out ?_
 clear S
 refine quietL ?_
 simp only [pu]
 refine quietLC C1 ?_
 simp only [pu]
 refine quietLK KR ?_
 simp only [pu]
 refine quietL ?_
 simp only [pu]
 intro w2 S
 replace S := Lib.hid S
 have KK : QuietC w bA 72 #[hpV h, agV y] (.int .i64 ky) := Lib.hid fun W Q T => by
  rw [HBS.out] at T ⊢
  exact kind_at T (Q.length + 2 + i) (atI2 hi) y ky HK.out
 have KY : QuietC w bA 89 #[agV x] (.bool true) := Lib.hid fun W Q T => by
  have hh := dict_key W x
  rw [HKEY.out] at hh
  exact hh.mono fun e W' ⟨e1, e2⟩ => ⟨e1, T.later e2⟩
 go_upto_region 12 with fail
 refine regionL (E := [boxE (b + 1 + 1)]) (base := bA) S.out ?_
 clear S
 refine quietL ?_
 simp only [pu]
 refine quietLC C1 ?_
 simp only [pu]
 refine quietLK KK ?_
 simp only [pu]
 iterate 2 (refine quietL ?_; simp only [pu])
 refine quietLC C0 ?_
 simp only [pu]
 refine quietLK KY ?_
 simp only [pu]
 iterate 2 (refine quietL ?_; simp only [pu])
 intro w3 S
 replace S := Lib.hid S
 have KG : QuietC w bA 80 #[hpV h, agV y, agV x] (.tuple #[.agg #[.int .i64 v.kind, .int .i64 v.n, .string v.s], .bool true]) := Lib.hid fun W Q T => by
  rw [HBS.out] at T ⊢
  exact idx_get T (Q.length + 2 + i) (atI2 hi) y x v HV.out
 go_upto_region 13 with fail
 refine regionL (E := [emptyR, boxE (b + 1 + 1)]) (base := bA) (Sep.putE S.out) ?_
 clear S
 refine quietL ?_
 simp only [pu]
 refine quietLC C1 ?_
 simp only [pu]
 refine quietLC C0 ?_
 simp only [pu]
 refine quietLK KG ?_
 simp only [pu]
 iterate 3 (refine quietL ?_; simp only [pu])
 refine allocL 0 rfl (fun q => .pointer (some ⟨q, 0, none⟩)) (.cells #[.int .i64 0, .int .i64 0, .string ⟨#[]⟩] 24) (h1 := fun Wx => by go_simp) (h2 := fun qL1 => ?_)
 simp only [pu]
 try simp only [List.set_cons_zero, List.set_cons_succ]
 refine detL undef [boxV qL1 v, boxE (b + 1 + 1)] (h1 := fun Wx hSw => by (have hz := hSw.box (b := qL1) (o := objZ) 0 rfl; refine useZ3 hz fun z0 z1 z2 y0 y1 y2 => ?_; go_simp; exact ⟨rfl, hSw.set3 0 rfl (.int .i64 v.kind) (.int .i64 v.n) (.string v.s)⟩)) (h2 := ?_)
 simp only [pu]
 refine quietL ?_
 simp only [pu]
 intro w4 S
 replace S := Lib.hid S
 go_upto_region 14 with fail
 refine regionL (E := [boxV qL1 v, boxE (b + 1 + 1)]) (base := bA) S.out ?_
 clear S
 iterate 3 (refine quietL ?_; simp only [pu])
 refine detL undef [boxV qL1 v, boxE (b + 1 + 1)] (h1 := fun Wx hSw => by (have hz := hSw.box (b := (b + 1 + 1)) (o := objE) 1 rfl; refine useZ5 hz fun z0 z1 z2 z3 z4 y0 y1 y2 y3 y4 => ?_; go_simp; exact ⟨rfl, hSw.set5 1 rfl (.string ⟨#[]⟩) (.int .i64 0) (.int .i64 0) (.string ⟨#[]⟩) (.bool false)⟩)) (h2 := ?_)
 simp only [pu]
 intro w5 S
 refine useR5 (S.box (b := b + 1 + 1) (o := objE) 1 rfl) fun r0 r1 r2 r3 r4 => ?_
 replace S := Lib.hid S
 repeat (first | go_values | go_skip | go_guarded | go_step)
 refine bodyPost_ret (v := .tuple #[.bool true, excZ]) ?_ ?_ ?_
 ·
  simp [results, Tryz.results115, go_sem, r0, r1, r2, r3, r4]
 ·
  rfl
 refine ⟨rfl, ?_⟩
 replace S := S.out
 rw [HBS.out] at S
 exact S.tail.tail.tail.tail
theorem in_dict_nos (S : Sep w Rs W) (i : Nat) (hi : Rs[i]? = some (heapR h H)) (x y : V) (hs : x.kind = 3) (hy : ¬ y.kind = 3) (hr : H.rowB y = false) (hd : H.kind y = 3) (hk : x.isKey = true) (hv : H.get y x = none) : Calls Tryz.prog 115 #[.pointer (some ⟨h, 0, none⟩), .agg #[.int .i64 x.kind, .int .i64 x.n, .string x.s], .agg #[.int .i64 y.kind, .int .i64 y.n, .string y.s]] W fun e W' => e = .returned (.tuple #[.bool false, excZ]) ∧ Sep w Rs W' := by
 have e1 : (x.kind == 3) = true := by simp [hs]
 have e2 : (y.kind == 3) = false := by simpa using hy
 obtain ⟨ky, hK⟩ : ∃ k, H.kind y = k := ⟨_, rfl⟩
 have e3 : (ky == 3) = true := by rw [← hK]; simp [hd]
 have HK := Lib.hid hK
 have HR := Lib.hid hr
 have HKEY := Lib.hid hk
 have HV := Lib.hid hv
 clear hs hy hK hr hd hk hv
 obtain ⟨b, hb⟩ : ∃ gx_, (W.heap.size) = gx_ := ⟨_, rfl⟩
 replace S := (((S.alloc (.cells #[.int .i64 x.kind, .int .i64 x.n, .string x.s] 24)).alloc (.cells #[.int .i64 y.kind, .int .i64 y.n, .string y.s] 24)).alloc (.cells #[.string ⟨#[]⟩, .int .i64 0, .int .i64 0, .string ⟨#[]⟩, .bool false] 33))
 simp only [World.size_alloc, hb] at S
 obtain ⟨bA, hbs⟩ : ∃ l, l = boxV (b + 1) y :: boxV b x :: Rs := ⟨_, rfl⟩
 have HBS := Lib.hid hbs
 replace S := enterP (w := w) (all := [boxE (b + 1 + 1), boxV (b + 1) y, boxV b x]) (E := [boxE (b + 1 + 1)]) (B := [boxV (b + 1) y, boxV b x]) (Rs := Rs) S hbs (perm_of [0, 1, 2] (by show (List.range' 0 3).Perm [0, 1, 2]; decide) (by rfl))
 have C1 := baseC3 (w := w) (b := b + 1) hbs 0 rfl
 have C0 := baseC3 (w := w) (b := b) hbs 1 rfl
 clear hbs
 replace S := Lib.hid S
 go_enter Tryz.func115, Tryz.ntmps115
 go_upto_region 1 with fail
 try simp only [World.size_alloc, hb]
 clear hb
 refine regionL (E := [boxE (b + 1 + 1)]) (base := bA) S.out ?_
 clear S
 refine quietL ?_
 simp only [pu]
 refine quietLC C0 ?_
 simp only [pu]
 iterate 3 (refine quietL ?_; simp only [pu])
 refine quietLC C1 ?_
 simp only [pu]
 iterate 3 (refine quietL ?_; simp only [pu])
 intro w1 S
 replace S := Lib.hid S
 have KR : QuietC w bA 84 #[hpV h, agV y] (.bool false) := Lib.hid fun W Q T => by
  rw [HBS.out] at T ⊢
  exact row_ok T (Q.length + 2 + i) (atI2 hi) y _ HR.out
 go_upto_region 3 with fail
 refine regionL (E := [boxE (b + 1 + 1)]) (base := bA) S.out ?_
 clear S
 refine quietL ?_
 simp only [pu]
 refine quietLC C1 ?_
 simp only [pu]
 refine quietLK KR ?_
 simp only [pu]
 refine quietL ?_
 simp only [pu]
 intro w2 S
 replace S := Lib.hid S
 have KK : QuietC w bA 72 #[hpV h, agV y] (.int .i64 ky) := Lib.hid fun W Q T => by
  rw [HBS.out] at T ⊢
  exact kind_at T (Q.length + 2 + i) (atI2 hi) y ky HK.out
 have KY : QuietC w bA 89 #[agV x] (.bool true) := Lib.hid fun W Q T => by
  have hh := dict_key W x
  rw [HKEY.out] at hh
  exact hh.mono fun e W' ⟨e1, e2⟩ => ⟨e1, T.later e2⟩
 go_upto_region 12 with fail
 refine regionL (E := [boxE (b + 1 + 1)]) (base := bA) S.out ?_
 clear S
 refine quietL ?_
 simp only [pu]
 refine quietLC C1 ?_
 simp only [pu]
 refine quietLK KK ?_
 simp only [pu]
 iterate 2 (refine quietL ?_; simp only [pu])
 refine quietLC C0 ?_
 simp only [pu]
 refine quietLK KY ?_
 simp only [pu]
 iterate 2 (refine quietL ?_; simp only [pu])
 intro w3 S
 replace S := Lib.hid S
 have KG : QuietC w bA 80 #[hpV h, agV y, agV x] (.tuple #[zeroV, .bool false]) := Lib.hid fun W Q T => by
  rw [HBS.out] at T ⊢
  exact idx_get_no T (Q.length + 2 + i) (atI2 hi) y x HV.out
 go_upto_region 13 with fail
 refine regionL (E := [emptyR, boxE (b + 1 + 1)]) (base := bA) (Sep.putE S.out) ?_
 clear S
 refine quietL ?_
 simp only [pu]
 refine quietLC C1 ?_
 simp only [pu]
 refine quietLC C0 ?_
 simp only [pu]
 refine quietLK KG ?_
 simp only [pu]
 iterate 3 (refine quietL ?_; simp only [pu])
 refine allocL 0 rfl (fun q => .pointer (some ⟨q, 0, none⟩)) (.cells #[.int .i64 0, .int .i64 0, .string ⟨#[]⟩] 24) (h1 := fun Wx => by go_simp) (h2 := fun qL1 => ?_)
 simp only [pu]
 try simp only [List.set_cons_zero, List.set_cons_succ]
 refine detL undef [boxZ qL1, boxE (b + 1 + 1)] (h1 := fun Wx hSw => by (have hz := hSw.box (b := qL1) (o := objZ) 0 rfl; refine useZ3 hz fun z0 z1 z2 y0 y1 y2 => ?_; go_simp; exact ⟨rfl, hSw.set3 0 rfl (.int .i64 0) (.int .i64 0) (.string ⟨#[]⟩)⟩)) (h2 := ?_)
 simp only [pu]
 refine quietL ?_
 simp only [pu]
 intro w4 S
 replace S := Lib.hid S
 go_upto_region 14 with fail
 refine regionL (E := [boxZ qL1, boxE (b + 1 + 1)]) (base := bA) S.out ?_
 clear S
 iterate 3 (refine quietL ?_; simp only [pu])
 refine detL undef [boxZ qL1, boxE (b + 1 + 1)] (h1 := fun Wx hSw => by (have hz := hSw.box (b := (b + 1 + 1)) (o := objE) 1 rfl; refine useZ5 hz fun z0 z1 z2 z3 z4 y0 y1 y2 y3 y4 => ?_; go_simp; exact ⟨rfl, hSw.set5 1 rfl (.string ⟨#[]⟩) (.int .i64 0) (.int .i64 0) (.string ⟨#[]⟩) (.bool false)⟩)) (h2 := ?_)
 simp only [pu]
 intro w5 S
 refine useR5 (S.box (b := b + 1 + 1) (o := objE) 1 rfl) fun r0 r1 r2 r3 r4 => ?_
 replace S := Lib.hid S
 repeat (first | go_values | go_skip | go_guarded | go_step)
 refine bodyPost_ret (v := .tuple #[.bool false, excZ]) ?_ ?_ ?_
 ·
  simp [results, Tryz.results115, go_sem, r0, r1, r2, r3, r4]
 ·
  rfl
 refine ⟨rfl, ?_⟩
 replace S := S.out
 rw [HBS.out] at S
 exact S.tail.tail.tail.tail
theorem in_w2s (S : Sep w Rs W) (i : Nat) (hi : Rs[i]? = some (heapR h H)) (x y : V) (hs : x.kind = 3) (hy : ¬ y.kind = 3) (hr : H.rowB y = false) (hd : H.kind y = 3) (hk : x.isKey = false) : Calls Tryz.prog 115 #[.pointer (some ⟨h, 0, none⟩), .agg #[.int .i64 x.kind, .int .i64 x.n, .string x.s], .agg #[.int .i64 y.kind, .int .i64 y.n, .string y.s]] W fun e W' => e = .returned (.tuple #[.bool false, excN typeError]) ∧ Sep w Rs W' := by
 have e1 : (x.kind == 3) = true := by simp [hs]
 have e2 : (y.kind == 3) = false := by simpa using hy
 obtain ⟨ky, hK⟩ : ∃ k, H.kind y = k := ⟨_, rfl⟩
 have e3 : (ky == 3) = true := by rw [← hK]; simp [hd]
 have HK := Lib.hid hK
 have HR := Lib.hid hr
 have HKEY := Lib.hid hk
 clear hs hy hK hr hd hk
 obtain ⟨b, hb⟩ : ∃ gx_, (W.heap.size) = gx_ := ⟨_, rfl⟩
 replace S := (((S.alloc (.cells #[.int .i64 x.kind, .int .i64 x.n, .string x.s] 24)).alloc (.cells #[.int .i64 y.kind, .int .i64 y.n, .string y.s] 24)).alloc (.cells #[.string ⟨#[]⟩, .int .i64 0, .int .i64 0, .string ⟨#[]⟩, .bool false] 33))
 simp only [World.size_alloc, hb] at S
 obtain ⟨bA, hbs⟩ : ∃ l, l = boxV (b + 1) y :: boxV b x :: Rs := ⟨_, rfl⟩
 have HBS := Lib.hid hbs
 replace S := enterP (w := w) (all := [boxE (b + 1 + 1), boxV (b + 1) y, boxV b x]) (E := [boxE (b + 1 + 1)]) (B := [boxV (b + 1) y, boxV b x]) (Rs := Rs) S hbs (perm_of [0, 1, 2] (by show (List.range' 0 3).Perm [0, 1, 2]; decide) (by rfl))
 have C1 := baseC3 (w := w) (b := b + 1) hbs 0 rfl
 have C0 := baseC3 (w := w) (b := b) hbs 1 rfl
 clear hbs
 replace S := Lib.hid S
 go_enter Tryz.func115, Tryz.ntmps115
 go_upto_region 1 with fail
 try simp only [World.size_alloc, hb]
 clear hb
 refine regionL (E := [boxE (b + 1 + 1)]) (base := bA) S.out ?_
 clear S
 refine quietL ?_
 simp only [pu]
 refine quietLC C0 ?_
 simp only [pu]
 iterate 3 (refine quietL ?_; simp only [pu])
 refine quietLC C1 ?_
 simp only [pu]
 iterate 3 (refine quietL ?_; simp only [pu])
 intro w1 S
 replace S := Lib.hid S
 have KR : QuietC w bA 84 #[hpV h, agV y] (.bool false) := Lib.hid fun W Q T => by
  rw [HBS.out] at T ⊢
  exact row_ok T (Q.length + 2 + i) (atI2 hi) y _ HR.out
 go_upto_region 3 with fail
 refine regionL (E := [boxE (b + 1 + 1)]) (base := bA) S.out ?_
 clear S
 refine quietL ?_
 simp only [pu]
 refine quietLC C1 ?_
 simp only [pu]
 refine quietLK KR ?_
 simp only [pu]
 refine quietL ?_
 simp only [pu]
 intro w2 S
 replace S := Lib.hid S
 have KK : QuietC w bA 72 #[hpV h, agV y] (.int .i64 ky) := Lib.hid fun W Q T => by
  rw [HBS.out] at T ⊢
  exact kind_at T (Q.length + 2 + i) (atI2 hi) y ky HK.out
 have KY : QuietC w bA 89 #[agV x] (.bool false) := Lib.hid fun W Q T => by
  have hh := dict_key W x
  rw [HKEY.out] at hh
  exact hh.mono fun e W' ⟨e1, e2⟩ => ⟨e1, T.later e2⟩
 go_upto_region 12 with fail
 refine regionL (E := [boxE (b + 1 + 1)]) (base := bA) S.out ?_
 clear S
 refine quietL ?_
 simp only [pu]
 refine quietLC C1 ?_
 simp only [pu]
 refine quietLK KK ?_
 simp only [pu]
 iterate 2 (refine quietL ?_; simp only [pu])
 refine quietLC C0 ?_
 simp only [pu]
 refine quietLK KY ?_
 simp only [pu]
 iterate 2 (refine quietL ?_; simp only [pu])
 intro w3 S
 replace S := Lib.hid S
 have KQ : QuietC w bA 87 #[.string typeError] (excN typeError) := Lib.hid fun W Q T => by
  exact (raise_ok W _).mono fun e W' ⟨e1, e2⟩ => ⟨e1, T.later e2⟩
 go_upto_region 15 with fail
 refine regionL (E := [boxE (b + 1 + 1)]) (base := bA) S.out ?_
 clear S
 refine quietLK KQ ?_
 simp only [pu]
 refine quietL ?_
 simp only [pu]
 refine detL undef [boxN (b + 1 + 1) typeError] (h1 := fun Wx hSw => by (have hz := hSw.box (b := (b + 1 + 1)) (o := objE) 0 rfl; refine useZ5 hz fun z0 z1 z2 z3 z4 y0 y1 y2 y3 y4 => ?_; go_simp; exact ⟨rfl, hSw.set5 0 rfl (.string typeError) (.int .i64 0) (.int .i64 0) (.string ⟨#[]⟩) (.bool false)⟩)) (h2 := ?_)
 simp only [pu]
 intro w4 S
 refine useR5 (S.box (b := b + 1 + 1) (o := objN typeError) 0 rfl) fun r0 r1 r2 r3 r4 => ?_
 replace S := Lib.hid S
 repeat (first | go_values | go_skip | go_guarded | go_step)
 refine bodyPost_ret (v := .tuple #[.bool false, excN typeError]) ?_ ?_ ?_
 ·
  simp [results, Tryz.results115, go_sem, r0, r1, r2, r3, r4]
 ·
  rfl
 refine ⟨rfl, ?_⟩
 replace S := S.out
 rw [HBS.out] at S
 exact S.tail.tail.tail
theorem in_w3s (S : Sep w Rs W) (i : Nat) (hi : Rs[i]? = some (heapR h H)) (x y : V) (hs : x.kind = 3) (hy : ¬ y.kind = 3) (hr : H.rowB y = false) (hd : ¬ H.kind y = 3) : Calls Tryz.prog 115 #[.pointer (some ⟨h, 0, none⟩), .agg #[.int .i64 x.kind, .int .i64 x.n, .string x.s], .agg #[.int .i64 y.kind, .int .i64 y.n, .string y.s]] W fun e W' => e = .returned (.tuple #[.bool false, excN typeError]) ∧ Sep w Rs W' := by
 have e1 : (x.kind == 3) = true := by simp [hs]
 have e2 : (y.kind == 3) = false := by simpa using hy
 obtain ⟨ky, hK⟩ : ∃ k, H.kind y = k := ⟨_, rfl⟩
 have e3 : (ky == 3) = false := by rw [← hK]; simpa using hd
 have HK := Lib.hid hK
 have HR := Lib.hid hr
 clear hs hy hK hr hd
 obtain ⟨b, hb⟩ : ∃ gx_, (W.heap.size) = gx_ := ⟨_, rfl⟩
 replace S := (((S.alloc (.cells #[.int .i64 x.kind, .int .i64 x.n, .string x.s] 24)).alloc (.cells #[.int .i64 y.kind, .int .i64 y.n, .string y.s] 24)).alloc (.cells #[.string ⟨#[]⟩, .int .i64 0, .int .i64 0, .string ⟨#[]⟩, .bool false] 33))
 simp only [World.size_alloc, hb] at S
 obtain ⟨bA, hbs⟩ : ∃ l, l = boxV (b + 1) y :: boxV b x :: Rs := ⟨_, rfl⟩
 have HBS := Lib.hid hbs
 replace S := enterP (w := w) (all := [boxE (b + 1 + 1), boxV (b + 1) y, boxV b x]) (E := [boxE (b + 1 + 1)]) (B := [boxV (b + 1) y, boxV b x]) (Rs := Rs) S hbs (perm_of [0, 1, 2] (by show (List.range' 0 3).Perm [0, 1, 2]; decide) (by rfl))
 have C1 := baseC3 (w := w) (b := b + 1) hbs 0 rfl
 have C0 := baseC3 (w := w) (b := b) hbs 1 rfl
 clear hbs
 replace S := Lib.hid S
 go_enter Tryz.func115, Tryz.ntmps115
 go_upto_region 1 with fail
 try simp only [World.size_alloc, hb]
 clear hb
 refine regionL (E := [boxE (b + 1 + 1)]) (base := bA) S.out ?_
 clear S
 refine quietL ?_
 simp only [pu]
 refine quietLC C0 ?_
 simp only [pu]
 iterate 3 (refine quietL ?_; simp only [pu])
 refine quietLC C1 ?_
 simp only [pu]
 iterate 3 (refine quietL ?_; simp only [pu])
 intro w1 S
 replace S := Lib.hid S
 have KR : QuietC w bA 84 #[hpV h, agV y] (.bool false) := Lib.hid fun W Q T => by
  rw [HBS.out] at T ⊢
  exact row_ok T (Q.length + 2 + i) (atI2 hi) y _ HR.out
 go_upto_region 3 with fail
 refine regionL (E := [boxE (b + 1 + 1)]) (base := bA) S.out ?_
 clear S
 refine quietL ?_
 simp only [pu]
 refine quietLC C1 ?_
 simp only [pu]
 refine quietLK KR ?_
 simp only [pu]
 refine quietL ?_
 simp only [pu]
 intro w2 S
 replace S := Lib.hid S
 have KK : QuietC w bA 72 #[hpV h, agV y] (.int .i64 ky) := Lib.hid fun W Q T => by
  rw [HBS.out] at T ⊢
  exact kind_at T (Q.length + 2 + i) (atI2 hi) y ky HK.out
 go_upto_region 12 with fail
 refine regionL (E := [boxE (b + 1 + 1)]) (base := bA) S.out ?_
 clear S
 refine quietL ?_
 simp only [pu]
 refine quietLC C1 ?_
 simp only [pu]
 refine quietLK KK ?_
 simp only [pu]
 iterate 2 (refine quietL ?_; simp only [pu])
 iterate 2 (refine skipL ?_; simp only [pu])
 iterate 2 (refine quietL ?_; simp only [pu])
 intro w3 S
 replace S := Lib.hid S
 have KQ : QuietC w bA 87 #[.string typeError] (excN typeError) := Lib.hid fun W Q T => by
  exact (raise_ok W _).mono fun e W' ⟨e1, e2⟩ => ⟨e1, T.later e2⟩
 go_upto_region 15 with fail
 refine regionL (E := [boxE (b + 1 + 1)]) (base := bA) S.out ?_
 clear S
 refine quietLK KQ ?_
 simp only [pu]
 refine quietL ?_
 simp only [pu]
 refine detL undef [boxN (b + 1 + 1) typeError] (h1 := fun Wx hSw => by (have hz := hSw.box (b := (b + 1 + 1)) (o := objE) 0 rfl; refine useZ5 hz fun z0 z1 z2 z3 z4 y0 y1 y2 y3 y4 => ?_; go_simp; exact ⟨rfl, hSw.set5 0 rfl (.string typeError) (.int .i64 0) (.int .i64 0) (.string ⟨#[]⟩) (.bool false)⟩)) (h2 := ?_)
 simp only [pu]
 intro w4 S
 refine useR5 (S.box (b := b + 1 + 1) (o := objN typeError) 0 rfl) fun r0 r1 r2 r3 r4 => ?_
 replace S := Lib.hid S
 repeat (first | go_values | go_skip | go_guarded | go_step)
 refine bodyPost_ret (v := .tuple #[.bool false, excN typeError]) ?_ ?_ ?_
 ·
  simp [results, Tryz.results115, go_sem, r0, r1, r2, r3, r4]
 ·
  rfl
 refine ⟨rfl, ?_⟩
 replace S := S.out
 rw [HBS.out] at S
 exact S.tail.tail.tail
end
end Go.Proofs.YtijlebhoapdfnaaGreat
