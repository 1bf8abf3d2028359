/- ch 16: end, Slice; add of strs. -/
import Derived.Test.YtijlebhoapdfnaaGreatOprI
import Derived.Test.YtijlebhoapdfnaaGreatRowT
import Derived.Test.YtijlebhoapdfnaaGreatOprN
set_option maxRecDepth 100000
set_option maxHeartbeats 12800000
namespace Go.Proofs.YtijlebhoapdfnaaGreat
set_option linter.unusedSimpArgs false
open Go.RowKit
set_option linter.unusedVariables false
/-- An end of a slice. -/
def endN (v : V) (n : Int) : Int := if v.kind = 0 then n else v.n
def endB (v : V) : Bool := decide (v.kind = 0) || decide (v.kind = 2)
/-- Where a slice of so many begins and ends. -/
def lowN (n : Nat) (f : Int) : Nat := (placeI (max (n : Int) 0) f).toNat
def highN (n : Nat) (f t : Int) : Nat := (max (placeI (max (n : Int) 0) f) (placeI (max (n : Int) 0) t)).toNat
def sliceL (l : List V) (f t : Int) : List V := (l.drop (lowN l.length f)).take (highN l.length f t - lowN l.length f)
theorem lowN_eq (n : Nat) (f t : Int) : placeI (max (n : Int) 0) f = (lowN n f : Int) ∧ max (placeI (max (n : Int) 0) f) (placeI (max (n : Int) 0) t) = (highN n f t : Int) ∧ lowN n f ≤ highN n f t ∧ highN n f t ≤ n := by
 have a := placeI_le (max (n : Int) 0) f (by omega)
 have b := placeI_le (max (n : Int) 0) t (by omega)
 unfold lowN highN
 omega
theorem sliceL_len (l : List V) (f t : Int) : (sliceL l f t).length = highN l.length f t - lowN l.length f := by
 have := lowN_eq l.length f t
 unfold sliceL
 rw [List.length_take, List.length_drop]
 omega
/-- Where a part of a row begins. -/
def cutAt (a : Option Addr) (i k : Nat) : Option Addr := if k = i then a else a.map (·.add (i * 3))
theorem SeesV.cutAt {W : World} {a : Option Addr} {n c : Nat} {l : List V} (h : SeesV W (.slice a n c) l) (hn : l.length = n) {i k : Nat} (hik : i ≤ k) (hk : k ≤ n) (hc : k ≤ c) : SeesV W (.slice (cutAt a i k) (k - i) (k - i)) ((l.drop i).take (k - i)) := by
 subst hn
 obtain ⟨b, e, hs⟩ := h.rows.part hik hk (Nat.le_refl k) hc
 have e1 : sliced a i k k 3 = .slice (Proofs.YtijlebhoapdfnaaGreat.cutAt a i k) (k - i) (k - i) := rfl
 rw [e1] at e
 obtain ⟨e2, _, _⟩ := Value.slice.inj e
 rw [e2]
 exact hs.vals
section
variable {w W : World} {Rs : List Res} {h : Nat} {H : HeapM}
theorem end_z (S : Sep w Rs W) (x : V) (n : Int) (hx : x.kind = 0) : Calls Tryz.prog 97 #[.agg #[.int .i64 x.kind, .int .i64 x.n, .string x.s], .int .i64 n] W fun e W' => e = .returned (.tuple #[.int .i64 n, .bool true]) ∧ Sep w Rs W' := by
 have hx0 : (x.kind == 0) = true := by simp [hx]
 have HX := Lib.hid hx
 clear hx
 obtain ⟨b, hb⟩ : ∃ gx_, (W.heap.size) = gx_ := ⟨_, rfl⟩
 replace S := (S.alloc (.cells #[.int .i64 x.kind, .int .i64 x.n, .string x.s] 24))
 simp only [World.size_alloc, hb] at S
 obtain ⟨bA, hbs⟩ : ∃ l, l = boxV b x :: Rs := ⟨_, rfl⟩
 have HBS := Lib.hid hbs
 replace S := enterP (w := w) (all := [boxV b x]) (E := []) (B := [boxV b x]) (Rs := Rs) S hbs (perm_of [0] (by show (List.range' 0 1).Perm [0]; decide) (by rfl))
 have C0 := baseC3 (w := w) (b := b) hbs 0 rfl
 clear hbs
 replace S := Lib.hid S
 go_enter Tryz.func97, Tryz.ntmps97
 go_upto_region 1 with fail
 try simp only [World.size_alloc, hb]
 clear hb
 refine regionL (E := []) (base := bA) S.out ?_
 clear S
 refine qa ?_
 refine qc C0 ?_
 refine qa ?_
 intro w1 S
 replace S := Lib.hid S
 clear hx0
 replace S := S.out
 rw [HBS.out] at S
 have d := wpVal x (S.box (b := b) 0 rfl)
 obtain ⟨d0, d1, d2⟩ := d
 replace S := Lib.hid S
 go_wp2
 exact bodyPost_ret (v := .tuple #[.int .i64 n, .bool true]) (by simp [results, Tryz.results97, go_sem]) rfl ⟨rfl, S.out.tail⟩
theorem end_n (S : Sep w Rs W) (x : V) (n : Int) (hx : ¬ x.kind = 0) : Calls Tryz.prog 97 #[.agg #[.int .i64 x.kind, .int .i64 x.n, .string x.s], .int .i64 n] W fun e W' => e = .returned (.tuple #[.int .i64 x.n, .bool (decide (x.kind = 2))]) ∧ Sep w Rs W' := by
 have hx0 : (x.kind == 0) = false := by simp [hx]
 obtain ⟨b2, hb2⟩ : ∃ b, b = (x.kind == 2) := ⟨_, rfl⟩
 have HB2 := Lib.hid hb2
 have HX := Lib.hid hx
 clear hx hb2
 obtain ⟨b, hb⟩ : ∃ gx_, (W.heap.size) = gx_ := ⟨_, rfl⟩
 replace S := (S.alloc (.cells #[.int .i64 x.kind, .int .i64 x.n, .string x.s] 24))
 simp only [World.size_alloc, hb] at S
 obtain ⟨bA, hbs⟩ : ∃ l, l = boxV b x :: Rs := ⟨_, rfl⟩
 have HBS := Lib.hid hbs
 replace S := enterP (w := w) (all := [boxV b x]) (E := []) (B := [boxV b x]) (Rs := Rs) S hbs (perm_of [0] (by show (List.range' 0 1).Perm [0]; decide) (by rfl))
 have C0 := baseC3 (w := w) (b := b) hbs 0 rfl
 clear hbs
 replace S := Lib.hid S
 go_enter Tryz.func97, Tryz.ntmps97
 go_upto_region 1 with fail
 try simp only [World.size_alloc, hb]
 clear hb
 refine regionL (E := []) (base := bA) S.out ?_
 clear S
 refine qa ?_
 refine qc C0 ?_
 refine qa ?_
 intro w1 S
 replace S := Lib.hid S
 clear hx0
 replace S := S.out
 rw [HBS.out] at S
 have d := wpVal x (S.box (b := b) 0 rfl)
 obtain ⟨d0, d1, d2⟩ := d
 replace S := Lib.hid S
 go_wp2_with fail
 go_region
 go_wp2
 exact bodyPost_ret (v := .tuple #[.int .i64 x.n, .bool (decide (x.kind = 2))]) (by simp [results, Tryz.results97, go_sem]; rfl) rfl ⟨rfl, S.out.drew.tail⟩
theorem end_ok (S : Sep w Rs W) (x : V) (n m : Int) (b : Bool) (hm : endN x n = m) (hb : endB x = b) : Calls Tryz.prog 97 #[.agg #[.int .i64 x.kind, .int .i64 x.n, .string x.s], .int .i64 n] W fun e W' => e = .returned (.tuple #[.int .i64 m, .bool b]) ∧ Sep w Rs W' := by
 subst hm hb
 unfold endN endB
 by_cases hx : x.kind = 0
 ·
  rw [if_pos hx, decide_eq_true hx]; exact end_z S x n hx
 ·
  rw [if_neg hx, decide_eq_false hx]; exact end_n S x n hx
theorem sl_str (S : Sep w Rs W) (i : Nat) (hi : Rs[i]? = some (heapR h H)) (x y z : V) (hx : x.kind = 3) (f t : Int) (hf : endN y 0 = f) (ht : endN z (x.s.size : Nat) = t) (hfo : okI f) (hto : okI t) (he1 : endB y = true) (he2 : endB z = true) : Calls Tryz.prog 19 #[.pointer (some ⟨h, 0, none⟩), .agg #[.int .i64 x.kind, .int .i64 x.n, .string x.s], .agg #[.int .i64 y.kind, .int .i64 y.n, .string y.s], .agg #[.int .i64 z.kind, .int .i64 z.n, .string z.s]] W fun e W' => e = .returned (.tuple #[.agg #[.int .i64 3, .int .i64 0, .string (x.s.extract (lowI x.s f).toNat (highI x.s f t).toNat)], excZ]) ∧ Sep w Rs W' := by
 obtain ⟨xs, hxs⟩ : ∃ s, s = x.s.extract (lowI x.s f).toNat (highI x.s f t).toNat := ⟨_, rfl⟩
 rw [← hxs]
 have HXS := Lib.hid hxs
 clear hxs
 obtain ⟨X1, hX1⟩ : ∃ l, l = H.items x := ⟨_, rfl⟩
 have HX := Lib.hid hX1
 have hx3 : (x.kind == 3) = true := by simp [hx]
 have HF1 := Lib.hid hf
 have HF2 := Lib.hid ht
 have HE1 := Lib.hid he1
 have HE2 := Lib.hid he2
 have hfb := okI_range hfo
 have htb := okI_range hto
 have HFB := Lib.hid hfb
 have HTB := Lib.hid htb
 clear hX1 hx hf ht he1 he2 hfb htb hfo hto
 obtain ⟨b, hb⟩ : ∃ gx_, (W.heap.size) = gx_ := ⟨_, rfl⟩
 replace S := (((((S.alloc (.cells #[.int .i64 x.kind, .int .i64 x.n, .string x.s] 24)).alloc (.cells #[.int .i64 y.kind, .int .i64 y.n, .string y.s] 24)).alloc (.cells #[.int .i64 z.kind, .int .i64 z.n, .string z.s] 24)).alloc (.cells #[.int .i64 0, .int .i64 0, .string ⟨#[]⟩] 24)).alloc (.cells #[.string ⟨#[]⟩, .int .i64 0, .int .i64 0, .string ⟨#[]⟩, .bool false] 33))
 simp only [World.size_alloc, hb] at S
 obtain ⟨bA, hbs⟩ : ∃ l, l = boxV (b + 1 + 1) z :: boxV (b + 1) y :: boxV b x :: Rs := ⟨_, rfl⟩
 have HBS := Lib.hid hbs
 replace S := enterP (w := w) (all := [boxE (b + 1 + 1 + 1 + 1), boxZ (b + 1 + 1 + 1), boxV (b + 1 + 1) z, boxV (b + 1) y, boxV b x]) (E := [boxE (b + 1 + 1 + 1 + 1), boxZ (b + 1 + 1 + 1)]) (B := [boxV (b + 1 + 1) z, boxV (b + 1) y, boxV b x]) (Rs := Rs) S hbs (perm_of [0, 1, 2, 3, 4] (by show (List.range' 0 5).Perm [0, 1, 2, 3, 4]; decide) (by rfl))
 have C2 := baseC3 (w := w) (b := b + 1 + 1) hbs 0 rfl
 have C1 := baseC3 (w := w) (b := b + 1) hbs 1 rfl
 have C0 := baseC3 (w := w) (b := b) hbs 2 rfl
 clear hbs
 replace S := Lib.hid S
 go_enter Tryz.func19, Tryz.ntmps19
 go_upto_region 1 with fail
 try simp only [World.size_alloc, hb]
 clear hb
 have KL : QuietC w bA 86 #[hpV h, agV x] (.int .i64 X1.length) := Lib.hid fun W Q T => by
  rw [HBS.out] at T ⊢
  exact len_at T (Q.length + 3 + i) (atI3 hi) x X1.length (by rw [HX.out])
 refine regionL (E := [boxE (b + 1 + 1 + 1 + 1), boxZ (b + 1 + 1 + 1)]) (base := bA) S.out ?_
 clear S
 refine qa ?_
 refine qc C0 ?_
 refine qk KL ?_
 refine qa ?_
 intro w1 S
 replace S := Lib.hid S
 go_upto_region 2 with fail
 refine regionL (E := [boxE (b + 1 + 1 + 1 + 1), boxZ (b + 1 + 1 + 1)]) (base := bA) S.out ?_
 clear S
 refine qa ?_
 refine qc C0 ?_
 refine qa ?_
 intro w2 S
 replace S := Lib.hid S
 go_upto_region 3 with fail
 refine regionL (E := [boxE (b + 1 + 1 + 1 + 1), boxZ (b + 1 + 1 + 1)]) (base := bA) S.out ?_
 clear S
 refine qa ?_
 refine qc C0 ?_
 iterate 2 refine qa ?_
 intro w3 S
 replace S := Lib.hid S
 have K1 : QuietC w bA 97 #[agV y, .int .i64 0] (.tuple #[.int .i64 f, .bool true]) := Lib.hid fun W Q T => by
  exact end_ok T y 0 f _ HF1.out HE1.out
 have K2 : QuietC w bA 97 #[agV z, .int .i64 x.s.size] (.tuple #[.int .i64 t, .bool true]) := Lib.hid fun W Q T => by
  exact end_ok T z _ t _ HF2.out HE2.out
 go_upto_region 6 with fail
 refine regionL (E := [boxE (b + 1 + 1 + 1 + 1), boxZ (b + 1 + 1 + 1)]) (base := bA) S.out ?_
 clear S
 refine qc C1 ?_
 refine qk K1 ?_
 iterate 5 refine qa ?_
 intro w4 S
 replace S := Lib.hid S
 go_upto_region 7 with fail
 refine regionL (E := [boxE (b + 1 + 1 + 1 + 1), boxZ (b + 1 + 1 + 1)]) (base := bA) S.out ?_
 clear S
 refine qc C2 ?_
 refine qa ?_
 refine qk K2 ?_
 iterate 5 refine qa ?_
 intro w5 S
 replace S := Lib.hid S
 go_upto_region 8 with fail
 refine regionL (E := [boxE (b + 1 + 1 + 1 + 1), boxZ (b + 1 + 1 + 1)]) (base := bA) S.out ?_
 clear S
 iterate 6 refine qa ?_
 intro w6 S
 replace S := Lib.hid S
 go_upto_region 10 with fail
 refine regionL (E := [boxE (b + 1 + 1 + 1 + 1), boxZ (b + 1 + 1 + 1)]) (base := bA) S.out ?_
 clear S
 refine qa ?_
 refine qc C0 ?_
 refine qa ?_
 intro w7 S
 replace S := Lib.hid S
 clear hx3
 have KS : QuietC w bA 98 #[.string x.s, .int .i64 f, .int .i64 t] (.string xs) := Lib.hid fun W Q T => by
  rw [HXS.out]
  exact (slice_i x.s f t W x.hs HFB.out.1 HFB.out.2 HTB.out.1 HTB.out.2).mono fun e W' ⟨e1, e2⟩ => ⟨e1, T.later e2⟩
 have KO : QuietC w bA 82 #[.string xs, .string ⟨#[]⟩] (.tuple #[.agg #[.int .i64 3, .int .i64 0, .string xs], excZ]) := Lib.hid fun W Q T => by
  exact (ostr_z W _).mono fun e W' ⟨e1, e2⟩ => ⟨e1, T.later e2⟩
 go_upto_region 11 with fail
 refine regionL (E := [boxE (b + 1 + 1 + 1 + 1), boxZ (b + 1 + 1 + 1)]) (base := bA) S.out ?_
 clear S
 refine qa ?_
 refine qc C0 ?_
 iterate 2 refine qa ?_
 refine qk KS ?_
 refine qk KO ?_
 iterate 2 refine qa ?_
 refine qd undef [boxE (b + 1 + 1 + 1 + 1), boxW (b + 1 + 1 + 1) 3 0 xs] (h1 := fun Wx hSw => by (have hz := hSw.box (b := (b + 1 + 1 + 1)) (o := objZ) 1 rfl; refine useZ3 hz fun z0 z1 z2 y0 y1 y2 => ?_; go_simp; exact ⟨rfl, hSw.set3 1 rfl (.int .i64 3) (.int .i64 0) (.string xs)⟩)) (h2 := ?_)
 refine qd undef [boxE (b + 1 + 1 + 1 + 1), boxW (b + 1 + 1 + 1) 3 0 xs] (h1 := fun Wx hSw => by (have hz := hSw.box (b := (b + 1 + 1 + 1 + 1)) (o := objE) 0 rfl; refine useZ5 hz fun z0 z1 z2 z3 z4 y0 y1 y2 y3 y4 => ?_; go_simp; exact ⟨rfl, hSw.set5 0 rfl (.string ⟨#[]⟩) (.int .i64 0) (.int .i64 0) (.string ⟨#[]⟩) (.bool false)⟩)) (h2 := ?_)
 intro w8 S
 refine useR3 (S.box (b := b + 1 + 1 + 1) (o := objW 3 0 xs) 1 rfl) fun r0 r1 r2 => ?_
 refine useR5 (S.box (b := b + 1 + 1 + 1 + 1) (o := objE) 0 rfl) fun r3 r4 r5 r6 r7 => ?_
 replace S := Lib.hid S
 repeat (first | go_values | go_skip | go_guarded | go_step)
 refine bodyPost_ret (v := .tuple #[.agg #[.int .i64 3, .int .i64 0, .string xs], excZ]) ?_ ?_ ?_
 ·
  simp [results, Tryz.results19, go_sem, r0, r1, r2, r3, r4, r5, r6, r7]
 ·
  rfl
 refine ⟨rfl, ?_⟩
 replace S := S.out
 rw [HBS.out] at S
 exact S.tail.tail.tail.tail.tail
theorem sl_row (S : Sep w Rs W) (i : Nat) (hi : Rs[i]? = some (heapR h H)) {N : Nat} (G : H.Good N) (hN : N + 1 ≤ 4000000) (x y z : V) (hr : H.rowB x = true) (f t : Int) (hf : endN y 0 = f) (ht : endN z ((H.items x).length : Nat) = t) (hfo : okI f) (hto : okI t) (he1 : endB y = true) (he2 : endB z = true) (hl : highN (H.items x).length f t - lowN (H.items x).length f ≤ 4096) : Calls Tryz.prog 19 #[.pointer (some ⟨h, 0, none⟩), .agg #[.int .i64 x.kind, .int .i64 x.n, .string x.s], .agg #[.int .i64 y.kind, .int .i64 y.n, .string y.s], .agg #[.int .i64 z.kind, .int .i64 z.n, .string z.s]] W fun e W' => e = .returned (.tuple #[.agg #[.int .i64 4, .int .i64 (H.last + 1), .string ⟨#[]⟩], excZ]) ∧ Sep w (Rs.set i (heapR h (H.add (rowO (H.kind x) (H.okKind x) (sliceL (H.items x) f t))))) W' := by
 obtain ⟨X1, hX1⟩ : ∃ l, l = H.items x := ⟨_, rfl⟩
 have HX := Lib.hid hX1
 have hgx : X1.length ≤ N := by rw [hX1]; exact G.items x
 have hkx := HeapM.rowB_kind hr
 obtain ⟨kx, hK⟩ : ∃ k, k = H.kind x := ⟨_, rfl⟩
 have hok : okI kx := by rw [hK]; exact H.okKind x
 have HK := Lib.hid hK
 have HB : Hid (1 ≤ kx ∧ kx ≤ 12) := Lib.hid (by rw [hK]; omega)
 rw [← hX1] at hl ht
 have HL := Lib.hid hl
 have hx3 : (x.kind == 3) = false := by have := H.kind_ref x (by have := HeapM.rowB_kind hr; omega); simp [this]
 have HR := Lib.hid hr
 have HF1 := Lib.hid hf
 have HF2 := Lib.hid ht
 have HE1 := Lib.hid he1
 have HE2 := Lib.hid he2
 have hfb := okI_range hfo
 have htb := okI_range hto
 have HFB := Lib.hid hfb
 have HTB := Lib.hid htb
 clear hX1 hr hf ht he1 he2 hkx hK hl hgx hfb htb hfo hto
 obtain ⟨b, hb⟩ : ∃ gx_, (W.heap.size) = gx_ := ⟨_, rfl⟩
 replace S := (((((S.alloc (.cells #[.int .i64 x.kind, .int .i64 x.n, .string x.s] 24)).alloc (.cells #[.int .i64 y.kind, .int .i64 y.n, .string y.s] 24)).alloc (.cells #[.int .i64 z.kind, .int .i64 z.n, .string z.s] 24)).alloc (.cells #[.int .i64 0, .int .i64 0, .string ⟨#[]⟩] 24)).alloc (.cells #[.string ⟨#[]⟩, .int .i64 0, .int .i64 0, .string ⟨#[]⟩, .bool false] 33))
 simp only [World.size_alloc, hb] at S
 obtain ⟨bA, hbs⟩ : ∃ l, l = boxV (b + 1 + 1) z :: boxV (b + 1) y :: boxV b x :: Rs := ⟨_, rfl⟩
 have HBS := Lib.hid hbs
 replace S := enterP (w := w) (all := [boxE (b + 1 + 1 + 1 + 1), boxZ (b + 1 + 1 + 1), boxV (b + 1 + 1) z, boxV (b + 1) y, boxV b x]) (E := [boxE (b + 1 + 1 + 1 + 1), boxZ (b + 1 + 1 + 1)]) (B := [boxV (b + 1 + 1) z, boxV (b + 1) y, boxV b x]) (Rs := Rs) S hbs (perm_of [0, 1, 2, 3, 4] (by show (List.range' 0 5).Perm [0, 1, 2, 3, 4]; decide) (by rfl))
 have C2 := baseC3 (w := w) (b := b + 1 + 1) hbs 0 rfl
 have C1 := baseC3 (w := w) (b := b + 1) hbs 1 rfl
 have C0 := baseC3 (w := w) (b := b) hbs 2 rfl
 clear hbs
 replace S := Lib.hid S
 go_enter Tryz.func19, Tryz.ntmps19
 go_upto_region 1 with fail
 try simp only [World.size_alloc, hb]
 clear hb
 have KL : QuietC w bA 86 #[hpV h, agV x] (.int .i64 X1.length) := Lib.hid fun W Q T => by
  rw [HBS.out] at T ⊢
  exact len_at T (Q.length + 3 + i) (atI3 hi) x X1.length (by rw [HX.out])
 refine regionL (E := [boxE (b + 1 + 1 + 1 + 1), boxZ (b + 1 + 1 + 1)]) (base := bA) S.out ?_
 clear S
 refine qa ?_
 refine qc C0 ?_
 refine qk KL ?_
 refine qa ?_
 intro w1 S
 replace S := Lib.hid S
 go_upto_region 2 with fail
 refine regionL (E := [boxE (b + 1 + 1 + 1 + 1), boxZ (b + 1 + 1 + 1)]) (base := bA) S.out ?_
 clear S
 refine qa ?_
 refine qc C0 ?_
 refine qa ?_
 intro w2 S
 replace S := Lib.hid S
 have KR : QuietC w bA 84 #[hpV h, agV x] (.bool true) := Lib.hid fun W Q T => by
  rw [HBS.out] at T ⊢
  exact row_ok T (Q.length + 3 + i) (atI3 hi) x _ HR.out
 go_upto_region 4 with fail
 refine regionL (E := [boxE (b + 1 + 1 + 1 + 1), boxZ (b + 1 + 1 + 1)]) (base := bA) S.out ?_
 clear S
 refine qa ?_
 refine qc C0 ?_
 refine qk KR ?_
 refine qa ?_
 intro w3 S
 replace S := Lib.hid S
 have K1 : QuietC w bA 97 #[agV y, .int .i64 0] (.tuple #[.int .i64 f, .bool true]) := Lib.hid fun W Q T => by
  exact end_ok T y 0 f _ HF1.out HE1.out
 have K2 : QuietC w bA 97 #[agV z, .int .i64 X1.length] (.tuple #[.int .i64 t, .bool true]) := Lib.hid fun W Q T => by
  exact end_ok T z _ t _ HF2.out HE2.out
 go_upto_region 6 with fail
 refine regionL (E := [boxE (b + 1 + 1 + 1 + 1), boxZ (b + 1 + 1 + 1)]) (base := bA) S.out ?_
 clear S
 refine qc C1 ?_
 refine qk K1 ?_
 iterate 5 refine qa ?_
 intro w4 S
 replace S := Lib.hid S
 go_upto_region 7 with fail
 refine regionL (E := [boxE (b + 1 + 1 + 1 + 1), boxZ (b + 1 + 1 + 1)]) (base := bA) S.out ?_
 clear S
 refine qc C2 ?_
 refine qa ?_
 refine qk K2 ?_
 iterate 5 refine qa ?_
 intro w5 S
 replace S := Lib.hid S
 go_upto_region 8 with fail
 refine regionL (E := [boxE (b + 1 + 1 + 1 + 1), boxZ (b + 1 + 1 + 1)]) (base := bA) S.out ?_
 clear S
 iterate 6 refine qa ?_
 intro w6 S
 replace S := Lib.hid S
 go_upto_region 10 with fail
 refine regionL (E := [boxE (b + 1 + 1 + 1 + 1), boxZ (b + 1 + 1 + 1)]) (base := bA) S.out ?_
 clear S
 refine qa ?_
 refine qc C0 ?_
 refine qa ?_
 intro w7 S
 replace S := Lib.hid S
 clear hx3
 obtain ⟨hq1, hq2, hq3, hq4⟩ := lowN_eq X1.length f t
 obtain ⟨i0, hi0⟩ : ∃ i, i = lowN X1.length f := ⟨_, rfl⟩
 obtain ⟨k0, hk0⟩ : ∃ i, i = highN X1.length f t := ⟨_, rfl⟩
 rw [← hi0] at hq1 hq3
 rw [← hk0] at hq2 hq3 hq4
 have HI0 := Lib.hid hi0
 have HK0 := Lib.hid hk0
 have HQ1 := Lib.hid hq1
 have HQ2 := Lib.hid hq2
 have HQ := Lib.hid (And.intro hq3 hq4)
 clear hq1 hq2 hi0 hk0
 have HGX : Hid (X1.length ≤ N) := Lib.hid (by rw [HX.out]; exact G.items x)
 have KB : QuietC w bA 99 #[.int .i64 X1.length, .int .i64 f, .int .i64 t] (.tuple #[.int .i64 i0, .int .i64 k0]) := Lib.hid fun W Q T => by
  have hh := bounds_i X1.length f t W (by omega) (by have := HGX.out; omega) HFB.out.1 HFB.out.2 HTB.out.1 HTB.out.2
  rw [HQ2.out, HQ1.out] at hh
  exact hh.mono fun e W' ⟨e1, e2⟩ => ⟨e1, T.later e2⟩
 go_upto_region 12 with fail
 refine regionL (E := [boxE (b + 1 + 1 + 1 + 1), boxZ (b + 1 + 1 + 1)]) (base := bA) S.out ?_
 clear S
 iterate 3 refine qa ?_
 refine qk KB ?_
 iterate 5 refine qa ?_
 intro w8 S
 replace S := Lib.hid S
 obtain ⟨Rt, hRt⟩ : ∃ l, l = Rs.eraseIdx i := ⟨_, rfl⟩
 have HF : Hid (∀ H' W', Sep w (heapR h H' :: Rt) W' → Sep w (Rs.set i (heapR h H')) W') := Lib.hid fun H' W' T => by rw [hRt] at T; exact T.perm (perm_push hi).symm
 obtain ⟨bB, hbB⟩ : ∃ l, l = boxV (b + 1 + 1) z :: boxV (b + 1) y :: boxV b x :: Rt := ⟨_, rfl⟩
 have HBB := Lib.hid hbB
 replace S := S.out
 rw [HBS.out] at S
 replace S : Sep w ([heapR h H, boxE (b + 1 + 1 + 1 + 1), boxZ (b + 1 + 1 + 1)] ++ bB) w8 := by
  rw [hbB]
  refine (show Sep w ([boxE (b + 1 + 1 + 1 + 1), boxZ (b + 1 + 1 + 1), boxV (b + 1 + 1) z, boxV (b + 1) y, boxV b x] ++ Rs) _ from S).perm ?_
  have e : Rs.Perm (heapR h H :: Rt) := by rw [hRt]; exact perm_pull hi
  refine (List.Perm.append_left _ e).trans ?_
  exact List.perm_middle (l₁ := [boxE (b + 1 + 1 + 1 + 1), boxZ (b + 1 + 1 + 1), boxV (b + 1 + 1) z, boxV (b + 1) y, boxV b x]) (l₂ := Rt)
 have CB : Hid (∀ W (Q : List Res), Sep w (Q ++ bB) W → W.cell? ⟨b, 0, none⟩ = some (.int .i64 x.kind) ∧ W.cell? ⟨b, 1, none⟩ = some (.int .i64 x.n) ∧ W.cell? ⟨b, 2, none⟩ = some (.string x.s)) := Lib.hid fun W Q T => by
  rw [hbB] at T
  exact wpVal x (T.box (b := b) (o := objV x) (Q.length + 2) (atR rfl))
 clear hRt hbB HBS
 have HBS := HBB
 clear HBB C0 C1 C2 KL KR K1 K2 KB
 replace S := Lib.hid S
 have hq3 := HQ.out.1
 have hqi : (i0 : Int) ≤ k0 := by omega
 have hq0 : (0 : Int) ≤ i0 := by omega
 go_upto_region 13 with fail
 go_cut [] (fun  wx => ∃ a3 c3, Sep w ([valsR (.slice a3 X1.length c3) X1, heapR h (H.add (rowO kx hok (sliceL X1 f t))), boxE (b + 1 + 1 + 1 + 1), boxW (b + 1 + 1 + 1) 4 (H.last + 1) ⟨#[]⟩] ++ bB) wx)
 case first =>
  refine regionP 3 13 (E := [emptyR, heapR h H, boxE (b + 1 + 1 + 1 + 1), boxZ (b + 1 + 1 + 1)]) (base := bB) (Sep.putE S.out) ?_
  clear S
  iterate 2 refine qp ?_
  refine qpc CB ?_
  refine endP ?_
  refine qs 4 ?_
  refine qsc 5 CB ?_
  refine qs 7 ?_
  refine qs 8 ?_
  refine qs 9 ?_
  refine readyS [3] ?_
  refine detS (.int .i64 kx) [emptyR, heapR h H, boxE (b + 1 + 1 + 1 + 1), boxZ (b + 1 + 1 + 1)] (h1 := fun Wx hSw => by (go_simp; refine symCall ?_; exact kind_at hSw 1 rfl x kx HK.out.symm)) (h2 := ?_) (hs := nilS); simp only [Act.put, pa]; try dsimp only [List.set]
  refine readyS [6] ?_
  refine stepS (fun v E1 => ∃ (a2 : Option Addr) (c2 : Nat), v = .slice a2 X1.length c2 ∧ E1 = [valsR (.slice a2 X1.length c2) X1, heapR h H, boxE (b + 1 + 1 + 1 + 1), boxZ (b + 1 + 1 + 1)]) (h1 := fun Wx hSw => by (go_simp; refine symCallN ?_; have hh := opi_items hSw 1 rfl G (by omega) x; rw [← HX.out] at hh; exact hh.mono fun e W' ⟨a, c, e1, e2⟩ => ⟨_, _, e1, ⟨a, c, rfl, rfl⟩, e2.into 0 rfl⟩)) (h2 := fun v E1 hvE => ?_) (hs := nilS)
  obtain ⟨a2, c2, rfl, rfl⟩ := hvE; simp only [Act.put, pa]; try dsimp only [List.set]
  refine readyS [10] ?_
  refine detS (.slice (cutAt a2 i0 k0) (k0 - i0) (k0 - i0)) [valsR (.slice a2 X1.length c2) X1, heapR h H, boxE (b + 1 + 1 + 1 + 1), boxZ (b + 1 + 1 + 1)] (h1 := fun Wx hSw => by (obtain ⟨_, hcc, hcb⟩ := hSw.caps 0 rfl; have hkc : (k0 : Int) ≤ c2 := (by have := HQ.out.2; omega); go_simp; exact ⟨rfl, hSw⟩)) (h2 := ?_) (hs := nilS); simp only [Act.put, pa]; try dsimp only [List.set]
  refine readyS [11] ?_
  refine detS (.tuple #[.agg #[.int .i64 4, .int .i64 (H.last + 1), .string ⟨#[]⟩], excZ]) [valsR (.slice a2 X1.length c2) X1, heapR h (H.add (rowO kx hok (sliceL X1 f t))), boxE (b + 1 + 1 + 1 + 1), boxZ (b + 1 + 1 + 1)] (h1 := fun Wx hSw => by (go_simp; refine symCall ?_; have hh := fresh_ok hSw 1 rfl G hN kx hok HB.out.1 HB.out.2 (cutAt a2 i0 k0) (k0 - i0) (sliceL X1 f t) (fun W' T => (by have hc := T.caps 0 rfl; have hs := (T.seesV 0 rfl).cutAt rfl HQ.out.1 HQ.out.2 (Nat.le_trans HQ.out.2 hc.2.1); rw [sliceL_len, ← HI0.out, ← HK0.out]; unfold sliceL; rw [← HI0.out, ← HK0.out]; exact hs)) (by rw [sliceL_len]; exact HL.out); rw [sliceL_len, ← HI0.out, ← HK0.out] at hh; exact hh)) (h2 := ?_) (hs := nilS); simp only [Act.put, pa]; try dsimp only [List.set]
  refine qs 12 ?_
  refine qs 13 ?_
  refine readyS [14] ?_
  refine detS undef [valsR (.slice a2 X1.length c2) X1, heapR h (H.add (rowO kx hok (sliceL X1 f t))), boxE (b + 1 + 1 + 1 + 1), boxW (b + 1 + 1 + 1) 4 (H.last + 1) ⟨#[]⟩] (h1 := fun Wx hSw => by (have hz := hSw.box (b := (b + 1 + 1 + 1)) (o := objZ) 3 rfl; refine useZ3 hz fun z0 z1 z2 y0 y1 y2 => ?_; go_simp; exact ⟨rfl, hSw.set3 3 rfl (.int .i64 4) (.int .i64 (H.last + 1)) (.string ⟨#[]⟩)⟩)) (h2 := ?_) (hs := nilS); simp only [Act.put, pa]; try dsimp only [List.set]
  refine readyS [15] ?_
  refine detS undef [valsR (.slice a2 X1.length c2) X1, heapR h (H.add (rowO kx hok (sliceL X1 f t))), boxE (b + 1 + 1 + 1 + 1), boxW (b + 1 + 1 + 1) 4 (H.last + 1) ⟨#[]⟩] (h1 := fun Wx hSw => by (have hz := hSw.box (b := (b + 1 + 1 + 1 + 1)) (o := objE) 2 rfl; refine useZ5 hz fun z0 z1 z2 z3 z4 y0 y1 y2 y3 y4 => ?_; go_simp; exact ⟨rfl, hSw.set5 2 rfl (.string ⟨#[]⟩) (.int .i64 0) (.int .i64 0) (.string ⟨#[]⟩) (.bool false)⟩)) (h2 := ?_) (hs := nilS); simp only [Act.put, pa]; try dsimp only [List.set]
  refine doneS (h := fun w9 S => ?_)
  go_wp2_with fail
  go_meet
  exact ⟨_, _, S⟩
 case rest =>
  obtain ⟨a3, c3, S⟩ := hcut
  rw [HBS.out] at S
  replace S : Sep w ([boxE (b + 1 + 1 + 1 + 1), boxW (b + 1 + 1 + 1) 4 (H.last + 1) ⟨#[]⟩] ++ (heapR h (H.add (rowO kx hok (sliceL X1 f t))) :: Rt)) wc := by
   refine (S.tail.sub (Qs := [heapR h (H.add (rowO kx hok (sliceL X1 f t))), boxE (b + 1 + 1 + 1 + 1), boxW (b + 1 + 1 + 1) 4 (H.last + 1) ⟨#[]⟩] ++ Rt) ?_).perm ?_
   ·
    exact List.Sublist.append (List.Sublist.refl _) (.cons _ (.cons _ (.cons _ (List.Sublist.refl _))))
   ·
    exact (List.perm_middle (l₁ := [boxE (b + 1 + 1 + 1 + 1), boxW (b + 1 + 1 + 1) 4 (H.last + 1) ⟨#[]⟩])).symm
  refine useR5 (S.box (b := b + 1 + 1 + 1 + 1) (o := objE) 0 rfl) fun r0 r1 r2 r3 r4 => ?_
  refine useR3 (S.box (b := b + 1 + 1 + 1) (o := objW 4 (H.last + 1) ⟨#[]⟩) 1 rfl) fun r5 r6 r7 => ?_
  replace S := Lib.hid S
  repeat (first | go_values | go_skip | go_guarded | go_step)
  refine bodyPost_ret (v := .tuple #[.agg #[.int .i64 4, .int .i64 (H.last + 1), .string ⟨#[]⟩], excZ]) ?_ ?_ ?_
  ·
   simp [results, Tryz.results19, go_sem, r0, r1, r2, r3, r4, r5, r6, r7]
  ·
   rfl
  refine ⟨rfl, ?_⟩
  have hX1 := HX.out
  have hK := HK.out
  subst hX1 hK
  exact HF.out _ _ S.out.tail.tail
theorem sl_w1 (S : Sep w Rs W) (i : Nat) (hi : Rs[i]? = some (heapR h H)) (x y z : V) (hx : ¬ x.kind = 3) (hr : H.rowB x = false) : Calls Tryz.prog 19 #[.pointer (some ⟨h, 0, none⟩), .agg #[.int .i64 x.kind, .int .i64 x.n, .string x.s], .agg #[.int .i64 y.kind, .int .i64 y.n, .string y.s], .agg #[.int .i64 z.kind, .int .i64 z.n, .string z.s]] W fun e W' => e = .returned (.tuple #[zeroV, excN typeError]) ∧ Sep w Rs W' := by
 obtain ⟨X1, hX1⟩ : ∃ l, l = H.items x := ⟨_, rfl⟩
 have HX := Lib.hid hX1
 have hx3 : (x.kind == 3) = false := by simpa using hx
 have HR := Lib.hid hr
 clear hX1 hx hr
 obtain ⟨b, hb⟩ : ∃ gx_, (W.heap.size) = gx_ := ⟨_, rfl⟩
 replace S := (((((S.alloc (.cells #[.int .i64 x.kind, .int .i64 x.n, .string x.s] 24)).alloc (.cells #[.int .i64 y.kind, .int .i64 y.n, .string y.s] 24)).alloc (.cells #[.int .i64 z.kind, .int .i64 z.n, .string z.s] 24)).alloc (.cells #[.int .i64 0, .int .i64 0, .string ⟨#[]⟩] 24)).alloc (.cells #[.string ⟨#[]⟩, .int .i64 0, .int .i64 0, .string ⟨#[]⟩, .bool false] 33))
 simp only [World.size_alloc, hb] at S
 obtain ⟨bA, hbs⟩ : ∃ l, l = boxV (b + 1 + 1) z :: boxV (b + 1) y :: boxV b x :: Rs := ⟨_, rfl⟩
 have HBS := Lib.hid hbs
 replace S := enterP (w := w) (all := [boxE (b + 1 + 1 + 1 + 1), boxZ (b + 1 + 1 + 1), boxV (b + 1 + 1) z, boxV (b + 1) y, boxV b x]) (E := [boxE (b + 1 + 1 + 1 + 1), boxZ (b + 1 + 1 + 1)]) (B := [boxV (b + 1 + 1) z, boxV (b + 1) y, boxV b x]) (Rs := Rs) S hbs (perm_of [0, 1, 2, 3, 4] (by show (List.range' 0 5).Perm [0, 1, 2, 3, 4]; decide) (by rfl))
 have C2 := baseC3 (w := w) (b := b + 1 + 1) hbs 0 rfl
 have C1 := baseC3 (w := w) (b := b + 1) hbs 1 rfl
 have C0 := baseC3 (w := w) (b := b) hbs 2 rfl
 clear hbs
 replace S := Lib.hid S
 go_enter Tryz.func19, Tryz.ntmps19
 go_upto_region 1 with fail
 try simp only [World.size_alloc, hb]
 clear hb
 have KL : QuietC w bA 86 #[hpV h, agV x] (.int .i64 X1.length) := Lib.hid fun W Q T => by
  rw [HBS.out] at T ⊢
  exact len_at T (Q.length + 3 + i) (atI3 hi) x X1.length (by rw [HX.out])
 refine regionL (E := [boxE (b + 1 + 1 + 1 + 1), boxZ (b + 1 + 1 + 1)]) (base := bA) S.out ?_
 clear S
 refine qa ?_
 refine qc C0 ?_
 refine qk KL ?_
 refine qa ?_
 intro w1 S
 replace S := Lib.hid S
 go_upto_region 2 with fail
 refine regionL (E := [boxE (b + 1 + 1 + 1 + 1), boxZ (b + 1 + 1 + 1)]) (base := bA) S.out ?_
 clear S
 refine qa ?_
 refine qc C0 ?_
 refine qa ?_
 intro w2 S
 replace S := Lib.hid S
 have KR : QuietC w bA 84 #[hpV h, agV x] (.bool false) := Lib.hid fun W Q T => by
  rw [HBS.out] at T ⊢
  exact row_ok T (Q.length + 3 + i) (atI3 hi) x _ HR.out
 go_upto_region 4 with fail
 refine regionL (E := [boxE (b + 1 + 1 + 1 + 1), boxZ (b + 1 + 1 + 1)]) (base := bA) S.out ?_
 clear S
 refine qa ?_
 refine qc C0 ?_
 refine qk KR ?_
 refine qa ?_
 intro w3 S
 replace S := Lib.hid S
 have KW : QuietC w bA 46 #[] (.tuple #[zeroV, excN typeError]) := Lib.hid fun W Q T => by
  exact wrong_ok T
 go_upto_region 5 with fail
 refine regionL (E := [boxE (b + 1 + 1 + 1 + 1), boxZ (b + 1 + 1 + 1)]) (base := bA) S.out ?_
 clear S
 refine qk KW ?_
 iterate 2 refine qa ?_
 refine qd undef [boxE (b + 1 + 1 + 1 + 1), boxZ (b + 1 + 1 + 1)] (h1 := fun Wx hSw => by (have hz := hSw.box (b := (b + 1 + 1 + 1)) (o := objZ) 1 rfl; refine useZ3 hz fun z0 z1 z2 y0 y1 y2 => ?_; go_simp; exact ⟨rfl, hSw.set3 1 rfl (.int .i64 0) (.int .i64 0) (.string ⟨#[]⟩)⟩)) (h2 := ?_)
 refine qd undef [boxN (b + 1 + 1 + 1 + 1) typeError, boxZ (b + 1 + 1 + 1)] (h1 := fun Wx hSw => by (have hz := hSw.box (b := (b + 1 + 1 + 1 + 1)) (o := objE) 0 rfl; refine useZ5 hz fun z0 z1 z2 z3 z4 y0 y1 y2 y3 y4 => ?_; go_simp; exact ⟨rfl, hSw.set5 0 rfl (.string typeError) (.int .i64 0) (.int .i64 0) (.string ⟨#[]⟩) (.bool false)⟩)) (h2 := ?_)
 intro w4 S
 refine useR3 (S.box (b := b + 1 + 1 + 1) (o := objZ) 1 rfl) fun r0 r1 r2 => ?_
 refine useR5 (S.box (b := b + 1 + 1 + 1 + 1) (o := objN typeError) 0 rfl) fun r3 r4 r5 r6 r7 => ?_
 replace S := Lib.hid S
 repeat (first | go_values | go_skip | go_guarded | go_step)
 refine bodyPost_ret (v := .tuple #[zeroV, excN typeError]) ?_ ?_ ?_
 ·
  simp [results, Tryz.results19, go_sem, r0, r1, r2, r3, r4, r5, r6, r7]
 ·
  rfl
 refine ⟨rfl, ?_⟩
 replace S := S.out
 rw [HBS.out] at S
 exact S.tail.tail.tail.tail.tail
theorem sl_w2s (S : Sep w Rs W) (i : Nat) (hi : Rs[i]? = some (heapR h H)) (x y z : V) (hx : x.kind = 3) (f t : Int) (e1 e2 : Bool) (hf : endN y 0 = f) (ht : endN z (x.s.size : Nat) = t) (he1 : endB y = e1) (he2 : endB z = e2) (hee : (e1 && e2) = false) : Calls Tryz.prog 19 #[.pointer (some ⟨h, 0, none⟩), .agg #[.int .i64 x.kind, .int .i64 x.n, .string x.s], .agg #[.int .i64 y.kind, .int .i64 y.n, .string y.s], .agg #[.int .i64 z.kind, .int .i64 z.n, .string z.s]] W fun e W' => e = .returned (.tuple #[zeroV, excN typeError]) ∧ Sep w Rs W' := by
 obtain ⟨X1, hX1⟩ : ∃ l, l = H.items x := ⟨_, rfl⟩
 have HX := Lib.hid hX1
 have hx3 : (x.kind == 3) = true := by simp [hx]
 have HF1 := Lib.hid hf
 have HF2 := Lib.hid ht
 have HE1 := Lib.hid he1
 have HE2 := Lib.hid he2
 clear hX1 hx hf ht he1 he2
 obtain ⟨b, hb⟩ : ∃ gx_, (W.heap.size) = gx_ := ⟨_, rfl⟩
 replace S := (((((S.alloc (.cells #[.int .i64 x.kind, .int .i64 x.n, .string x.s] 24)).alloc (.cells #[.int .i64 y.kind, .int .i64 y.n, .string y.s] 24)).alloc (.cells #[.int .i64 z.kind, .int .i64 z.n, .string z.s] 24)).alloc (.cells #[.int .i64 0, .int .i64 0, .string ⟨#[]⟩] 24)).alloc (.cells #[.string ⟨#[]⟩, .int .i64 0, .int .i64 0, .string ⟨#[]⟩, .bool false] 33))
 simp only [World.size_alloc, hb] at S
 obtain ⟨bA, hbs⟩ : ∃ l, l = boxV (b + 1 + 1) z :: boxV (b + 1) y :: boxV b x :: Rs := ⟨_, rfl⟩
 have HBS := Lib.hid hbs
 replace S := enterP (w := w) (all := [boxE (b + 1 + 1 + 1 + 1), boxZ (b + 1 + 1 + 1), boxV (b + 1 + 1) z, boxV (b + 1) y, boxV b x]) (E := [boxE (b + 1 + 1 + 1 + 1), boxZ (b + 1 + 1 + 1)]) (B := [boxV (b + 1 + 1) z, boxV (b + 1) y, boxV b x]) (Rs := Rs) S hbs (perm_of [0, 1, 2, 3, 4] (by show (List.range' 0 5).Perm [0, 1, 2, 3, 4]; decide) (by rfl))
 have C2 := baseC3 (w := w) (b := b + 1 + 1) hbs 0 rfl
 have C1 := baseC3 (w := w) (b := b + 1) hbs 1 rfl
 have C0 := baseC3 (w := w) (b := b) hbs 2 rfl
 clear hbs
 replace S := Lib.hid S
 go_enter Tryz.func19, Tryz.ntmps19
 go_upto_region 1 with fail
 try simp only [World.size_alloc, hb]
 clear hb
 have KL : QuietC w bA 86 #[hpV h, agV x] (.int .i64 X1.length) := Lib.hid fun W Q T => by
  rw [HBS.out] at T ⊢
  exact len_at T (Q.length + 3 + i) (atI3 hi) x X1.length (by rw [HX.out])
 refine regionL (E := [boxE (b + 1 + 1 + 1 + 1), boxZ (b + 1 + 1 + 1)]) (base := bA) S.out ?_
 clear S
 refine qa ?_
 refine qc C0 ?_
 refine qk KL ?_
 refine qa ?_
 intro w1 S
 replace S := Lib.hid S
 go_upto_region 2 with fail
 refine regionL (E := [boxE (b + 1 + 1 + 1 + 1), boxZ (b + 1 + 1 + 1)]) (base := bA) S.out ?_
 clear S
 refine qa ?_
 refine qc C0 ?_
 refine qa ?_
 intro w2 S
 replace S := Lib.hid S
 go_upto_region 3 with fail
 refine regionL (E := [boxE (b + 1 + 1 + 1 + 1), boxZ (b + 1 + 1 + 1)]) (base := bA) S.out ?_
 clear S
 refine qa ?_
 refine qc C0 ?_
 iterate 2 refine qa ?_
 intro w3 S
 replace S := Lib.hid S
 have K1 : QuietC w bA 97 #[agV y, .int .i64 0] (.tuple #[.int .i64 f, .bool e1]) := Lib.hid fun W Q T => by
  exact end_ok T y 0 f _ HF1.out HE1.out
 have K2 : QuietC w bA 97 #[agV z, .int .i64 x.s.size] (.tuple #[.int .i64 t, .bool e2]) := Lib.hid fun W Q T => by
  exact end_ok T z _ t _ HF2.out HE2.out
 go_upto_region 6 with fail
 refine regionL (E := [boxE (b + 1 + 1 + 1 + 1), boxZ (b + 1 + 1 + 1)]) (base := bA) S.out ?_
 clear S
 refine qc C1 ?_
 refine qk K1 ?_
 iterate 5 refine qa ?_
 intro w4 S
 replace S := Lib.hid S
 go_upto_region 7 with fail
 refine regionL (E := [boxE (b + 1 + 1 + 1 + 1), boxZ (b + 1 + 1 + 1)]) (base := bA) S.out ?_
 clear S
 refine qc C2 ?_
 refine qa ?_
 refine qk K2 ?_
 iterate 5 refine qa ?_
 intro w5 S
 replace S := Lib.hid S
 clear K1 K2
 by_cases hb1 : e1 = true
 ·
  obtain rfl : e2 = false := by subst hb1; simpa using hee
  subst hb1
  clear hee
  go_upto_region 8 with fail
  refine regionL (E := [boxE (b + 1 + 1 + 1 + 1), boxZ (b + 1 + 1 + 1)]) (base := bA) S.out ?_
  clear S
  iterate 6 refine qa ?_
  intro w6 S
  replace S := Lib.hid S
  try clear KW
  have KW : QuietC w bA 46 #[] (.tuple #[zeroV, excN typeError]) := Lib.hid fun W Q T => by
   exact wrong_ok T
  go_upto_region 9 with fail
  refine regionL (E := [boxE (b + 1 + 1 + 1 + 1), boxZ (b + 1 + 1 + 1)]) (base := bA) S.out ?_
  clear S
  refine qk KW ?_
  iterate 2 refine qa ?_
  refine qd undef [boxE (b + 1 + 1 + 1 + 1), boxZ (b + 1 + 1 + 1)] (h1 := fun Wx hSw => by (have hz := hSw.box (b := (b + 1 + 1 + 1)) (o := objZ) 1 rfl; refine useZ3 hz fun z0 z1 z2 y0 y1 y2 => ?_; go_simp; exact ⟨rfl, hSw.set3 1 rfl (.int .i64 0) (.int .i64 0) (.string ⟨#[]⟩)⟩)) (h2 := ?_)
  refine qd undef [boxN (b + 1 + 1 + 1 + 1) typeError, boxZ (b + 1 + 1 + 1)] (h1 := fun Wx hSw => by (have hz := hSw.box (b := (b + 1 + 1 + 1 + 1)) (o := objE) 0 rfl; refine useZ5 hz fun z0 z1 z2 z3 z4 y0 y1 y2 y3 y4 => ?_; go_simp; exact ⟨rfl, hSw.set5 0 rfl (.string typeError) (.int .i64 0) (.int .i64 0) (.string ⟨#[]⟩) (.bool false)⟩)) (h2 := ?_)
  intro w7 S
  refine useR3 (S.box (b := b + 1 + 1 + 1) (o := objZ) 1 rfl) fun r0 r1 r2 => ?_
  refine useR5 (S.box (b := b + 1 + 1 + 1 + 1) (o := objN typeError) 0 rfl) fun r3 r4 r5 r6 r7 => ?_
  replace S := Lib.hid S
  repeat (first | go_values | go_skip | go_guarded | go_step)
  refine bodyPost_ret (v := .tuple #[zeroV, excN typeError]) ?_ ?_ ?_
  ·
   simp [results, Tryz.results19, go_sem, r0, r1, r2, r3, r4, r5, r6, r7]
  ·
   rfl
  refine ⟨rfl, ?_⟩
  replace S := S.out
  rw [HBS.out] at S
  exact S.tail.tail.tail.tail.tail
 ·
  obtain rfl : e1 = false := by simpa using hb1
  clear hee hb1
  go_upto_region 8 with fail
  refine regionL (E := [boxE (b + 1 + 1 + 1 + 1), boxZ (b + 1 + 1 + 1)]) (base := bA) S.out ?_
  clear S
  iterate 3 refine qa ?_
  iterate 2 refine qz ?_
  refine qa ?_
  intro w8 S
  replace S := Lib.hid S
  try clear KW
  have KW : QuietC w bA 46 #[] (.tuple #[zeroV, excN typeError]) := Lib.hid fun W Q T => by
   exact wrong_ok T
  go_upto_region 9 with fail
  refine regionL (E := [boxE (b + 1 + 1 + 1 + 1), boxZ (b + 1 + 1 + 1)]) (base := bA) S.out ?_
  clear S
  refine qk KW ?_
  iterate 2 refine qa ?_
  refine qd undef [boxE (b + 1 + 1 + 1 + 1), boxZ (b + 1 + 1 + 1)] (h1 := fun Wx hSw => by (have hz := hSw.box (b := (b + 1 + 1 + 1)) (o := objZ) 1 rfl; refine useZ3 hz fun z0 z1 z2 y0 y1 y2 => ?_; go_simp; exact ⟨rfl, hSw.set3 1 rfl (.int .i64 0) (.int .i64 0) (.string ⟨#[]⟩)⟩)) (h2 := ?_)
  refine qd undef [boxN (b + 1 + 1 + 1 + 1) typeError, boxZ (b + 1 + 1 + 1)] (h1 := fun Wx hSw => by (have hz := hSw.box (b := (b + 1 + 1 + 1 + 1)) (o := objE) 0 rfl; refine useZ5 hz fun z0 z1 z2 z3 z4 y0 y1 y2 y3 y4 => ?_; go_simp; exact ⟨rfl, hSw.set5 0 rfl (.string typeError) (.int .i64 0) (.int .i64 0) (.string ⟨#[]⟩) (.bool false)⟩)) (h2 := ?_)
  intro w9 S
  refine useR3 (S.box (b := b + 1 + 1 + 1) (o := objZ) 1 rfl) fun r0 r1 r2 => ?_
  refine useR5 (S.box (b := b + 1 + 1 + 1 + 1) (o := objN typeError) 0 rfl) fun r3 r4 r5 r6 r7 => ?_
  replace S := Lib.hid S
  repeat (first | go_values | go_skip | go_guarded | go_step)
  refine bodyPost_ret (v := .tuple #[zeroV, excN typeError]) ?_ ?_ ?_
  ·
   simp [results, Tryz.results19, go_sem, r0, r1, r2, r3, r4, r5, r6, r7]
  ·
   rfl
  refine ⟨rfl, ?_⟩
  replace S := S.out
  rw [HBS.out] at S
  exact S.tail.tail.tail.tail.tail
theorem sl_w2r (S : Sep w Rs W) (i : Nat) (hi : Rs[i]? = some (heapR h H)) (x y z : V) (hr : H.rowB x = true) (f t : Int) (e1 e2 : Bool) (hf : endN y 0 = f) (ht : endN z ((H.items x).length : Nat) = t) (he1 : endB y = e1) (he2 : endB z = e2) (hee : (e1 && e2) = false) : Calls Tryz.prog 19 #[.pointer (some ⟨h, 0, none⟩), .agg #[.int .i64 x.kind, .int .i64 x.n, .string x.s], .agg #[.int .i64 y.kind, .int .i64 y.n, .string y.s], .agg #[.int .i64 z.kind, .int .i64 z.n, .string z.s]] W fun e W' => e = .returned (.tuple #[zeroV, excN typeError]) ∧ Sep w Rs W' := by
 obtain ⟨X1, hX1⟩ : ∃ l, l = H.items x := ⟨_, rfl⟩
 have HX := Lib.hid hX1
 have hx3 : (x.kind == 3) = false := by have := H.kind_ref x (by have := HeapM.rowB_kind hr; omega); simp [this]
 have HR := Lib.hid hr
 rw [← hX1] at ht
 have HF1 := Lib.hid hf
 have HF2 := Lib.hid ht
 have HE1 := Lib.hid he1
 have HE2 := Lib.hid he2
 clear hX1 hr hf ht he1 he2
 obtain ⟨b, hb⟩ : ∃ gx_, (W.heap.size) = gx_ := ⟨_, rfl⟩
 replace S := (((((S.alloc (.cells #[.int .i64 x.kind, .int .i64 x.n, .string x.s] 24)).alloc (.cells #[.int .i64 y.kind, .int .i64 y.n, .string y.s] 24)).alloc (.cells #[.int .i64 z.kind, .int .i64 z.n, .string z.s] 24)).alloc (.cells #[.int .i64 0, .int .i64 0, .string ⟨#[]⟩] 24)).alloc (.cells #[.string ⟨#[]⟩, .int .i64 0, .int .i64 0, .string ⟨#[]⟩, .bool false] 33))
 simp only [World.size_alloc, hb] at S
 obtain ⟨bA, hbs⟩ : ∃ l, l = boxV (b + 1 + 1) z :: boxV (b + 1) y :: boxV b x :: Rs := ⟨_, rfl⟩
 have HBS := Lib.hid hbs
 replace S := enterP (w := w) (all := [boxE (b + 1 + 1 + 1 + 1), boxZ (b + 1 + 1 + 1), boxV (b + 1 + 1) z, boxV (b + 1) y, boxV b x]) (E := [boxE (b + 1 + 1 + 1 + 1), boxZ (b + 1 + 1 + 1)]) (B := [boxV (b + 1 + 1) z, boxV (b + 1) y, boxV b x]) (Rs := Rs) S hbs (perm_of [0, 1, 2, 3, 4] (by show (List.range' 0 5).Perm [0, 1, 2, 3, 4]; decide) (by rfl))
 have C2 := baseC3 (w := w) (b := b + 1 + 1) hbs 0 rfl
 have C1 := baseC3 (w := w) (b := b + 1) hbs 1 rfl
 have C0 := baseC3 (w := w) (b := b) hbs 2 rfl
 clear hbs
 replace S := Lib.hid S
 go_enter Tryz.func19, Tryz.ntmps19
 go_upto_region 1 with fail
 try simp only [World.size_alloc, hb]
 clear hb
 have KL : QuietC w bA 86 #[hpV h, agV x] (.int .i64 X1.length) := Lib.hid fun W Q T => by
  rw [HBS.out] at T ⊢
  exact len_at T (Q.length + 3 + i) (atI3 hi) x X1.length (by rw [HX.out])
 refine regionL (E := [boxE (b + 1 + 1 + 1 + 1), boxZ (b + 1 + 1 + 1)]) (base := bA) S.out ?_
 clear S
 refine qa ?_
 refine qc C0 ?_
 refine qk KL ?_
 refine qa ?_
 intro w1 S
 replace S := Lib.hid S
 go_upto_region 2 with fail
 refine regionL (E := [boxE (b + 1 + 1 + 1 + 1), boxZ (b + 1 + 1 + 1)]) (base := bA) S.out ?_
 clear S
 refine qa ?_
 refine qc C0 ?_
 refine qa ?_
 intro w2 S
 replace S := Lib.hid S
 have KR : QuietC w bA 84 #[hpV h, agV x] (.bool true) := Lib.hid fun W Q T => by
  rw [HBS.out] at T ⊢
  exact row_ok T (Q.length + 3 + i) (atI3 hi) x _ HR.out
 go_upto_region 4 with fail
 refine regionL (E := [boxE (b + 1 + 1 + 1 + 1), boxZ (b + 1 + 1 + 1)]) (base := bA) S.out ?_
 clear S
 refine qa ?_
 refine qc C0 ?_
 refine qk KR ?_
 refine qa ?_
 intro w3 S
 replace S := Lib.hid S
 have K1 : QuietC w bA 97 #[agV y, .int .i64 0] (.tuple #[.int .i64 f, .bool e1]) := Lib.hid fun W Q T => by
  exact end_ok T y 0 f _ HF1.out HE1.out
 have K2 : QuietC w bA 97 #[agV z, .int .i64 X1.length] (.tuple #[.int .i64 t, .bool e2]) := Lib.hid fun W Q T => by
  exact end_ok T z _ t _ HF2.out HE2.out
 go_upto_region 6 with fail
 refine regionL (E := [boxE (b + 1 + 1 + 1 + 1), boxZ (b + 1 + 1 + 1)]) (base := bA) S.out ?_
 clear S
 refine qc C1 ?_
 refine qk K1 ?_
 iterate 5 refine qa ?_
 intro w4 S
 replace S := Lib.hid S
 go_upto_region 7 with fail
 refine regionL (E := [boxE (b + 1 + 1 + 1 + 1), boxZ (b + 1 + 1 + 1)]) (base := bA) S.out ?_
 clear S
 refine qc C2 ?_
 refine qa ?_
 refine qk K2 ?_
 iterate 5 refine qa ?_
 intro w5 S
 replace S := Lib.hid S
 clear K1 K2
 by_cases hb1 : e1 = true
 ·
  obtain rfl : e2 = false := by subst hb1; simpa using hee
  subst hb1
  clear hee
  go_upto_region 8 with fail
  refine regionL (E := [boxE (b + 1 + 1 + 1 + 1), boxZ (b + 1 + 1 + 1)]) (base := bA) S.out ?_
  clear S
  iterate 6 refine qa ?_
  intro w6 S
  replace S := Lib.hid S
  try clear KW
  have KW : QuietC w bA 46 #[] (.tuple #[zeroV, excN typeError]) := Lib.hid fun W Q T => by
   exact wrong_ok T
  go_upto_region 9 with fail
  refine regionL (E := [boxE (b + 1 + 1 + 1 + 1), boxZ (b + 1 + 1 + 1)]) (base := bA) S.out ?_
  clear S
  refine qk KW ?_
  iterate 2 refine qa ?_
  refine qd undef [boxE (b + 1 + 1 + 1 + 1), boxZ (b + 1 + 1 + 1)] (h1 := fun Wx hSw => by (have hz := hSw.box (b := (b + 1 + 1 + 1)) (o := objZ) 1 rfl; refine useZ3 hz fun z0 z1 z2 y0 y1 y2 => ?_; go_simp; exact ⟨rfl, hSw.set3 1 rfl (.int .i64 0) (.int .i64 0) (.string ⟨#[]⟩)⟩)) (h2 := ?_)
  refine qd undef [boxN (b + 1 + 1 + 1 + 1) typeError, boxZ (b + 1 + 1 + 1)] (h1 := fun Wx hSw => by (have hz := hSw.box (b := (b + 1 + 1 + 1 + 1)) (o := objE) 0 rfl; refine useZ5 hz fun z0 z1 z2 z3 z4 y0 y1 y2 y3 y4 => ?_; go_simp; exact ⟨rfl, hSw.set5 0 rfl (.string typeError) (.int .i64 0) (.int .i64 0) (.string ⟨#[]⟩) (.bool false)⟩)) (h2 := ?_)
  intro w7 S
  refine useR3 (S.box (b := b + 1 + 1 + 1) (o := objZ) 1 rfl) fun r0 r1 r2 => ?_
  refine useR5 (S.box (b := b + 1 + 1 + 1 + 1) (o := objN typeError) 0 rfl) fun r3 r4 r5 r6 r7 => ?_
  replace S := Lib.hid S
  repeat (first | go_values | go_skip | go_guarded | go_step)
  refine bodyPost_ret (v := .tuple #[zeroV, excN typeError]) ?_ ?_ ?_
  ·
   simp [results, Tryz.results19, go_sem, r0, r1, r2, r3, r4, r5, r6, r7]
  ·
   rfl
  refine ⟨rfl, ?_⟩
  replace S := S.out
  rw [HBS.out] at S
  exact S.tail.tail.tail.tail.tail
 ·
  obtain rfl : e1 = false := by simpa using hb1
  clear hee hb1
  go_upto_region 8 with fail
  refine regionL (E := [boxE (b + 1 + 1 + 1 + 1), boxZ (b + 1 + 1 + 1)]) (base := bA) S.out ?_
  clear S
  iterate 3 refine qa ?_
  iterate 2 refine qz ?_
  refine qa ?_
  intro w8 S
  replace S := Lib.hid S
  try clear KW
  have KW : QuietC w bA 46 #[] (.tuple #[zeroV, excN typeError]) := Lib.hid fun W Q T => by
   exact wrong_ok T
  go_upto_region 9 with fail
  refine regionL (E := [boxE (b + 1 + 1 + 1 + 1), boxZ (b + 1 + 1 + 1)]) (base := bA) S.out ?_
  clear S
  refine qk KW ?_
  iterate 2 refine qa ?_
  refine qd undef [boxE (b + 1 + 1 + 1 + 1), boxZ (b + 1 + 1 + 1)] (h1 := fun Wx hSw => by (have hz := hSw.box (b := (b + 1 + 1 + 1)) (o := objZ) 1 rfl; refine useZ3 hz fun z0 z1 z2 y0 y1 y2 => ?_; go_simp; exact ⟨rfl, hSw.set3 1 rfl (.int .i64 0) (.int .i64 0) (.string ⟨#[]⟩)⟩)) (h2 := ?_)
  refine qd undef [boxN (b + 1 + 1 + 1 + 1) typeError, boxZ (b + 1 + 1 + 1)] (h1 := fun Wx hSw => by (have hz := hSw.box (b := (b + 1 + 1 + 1 + 1)) (o := objE) 0 rfl; refine useZ5 hz fun z0 z1 z2 z3 z4 y0 y1 y2 y3 y4 => ?_; go_simp; exact ⟨rfl, hSw.set5 0 rfl (.string typeError) (.int .i64 0) (.int .i64 0) (.string ⟨#[]⟩) (.bool false)⟩)) (h2 := ?_)
  intro w9 S
  refine useR3 (S.box (b := b + 1 + 1 + 1) (o := objZ) 1 rfl) fun r0 r1 r2 => ?_
  refine useR5 (S.box (b := b + 1 + 1 + 1 + 1) (o := objN typeError) 0 rfl) fun r3 r4 r5 r6 r7 => ?_
  replace S := Lib.hid S
  repeat (first | go_values | go_skip | go_guarded | go_step)
  refine bodyPost_ret (v := .tuple #[zeroV, excN typeError]) ?_ ?_ ?_
  ·
   simp [results, Tryz.results19, go_sem, r0, r1, r2, r3, r4, r5, r6, r7]
  ·
   rfl
  refine ⟨rfl, ?_⟩
  replace S := S.out
  rw [HBS.out] at S
  exact S.tail.tail.tail.tail.tail
theorem sl_strs (S : Sep w Rs W) (i : Nat) (hi : Rs[i]? = some (heapR h H)) (x y z : V) (hx : x.kind = 3) (f t : Int) (hf : endN y 0 = f) (ht : endN z (x.s.size : Nat) = t) (hfo : okI f) (hto : okI t) (he1 : endB y = true) (he2 : endB z = true) (r : ByteArray) (hr : x.s.extract (lowI x.s f).toNat (highI x.s f t).toNat = r) : Calls Tryz.prog 19 #[.pointer (some ⟨h, 0, none⟩), .agg #[.int .i64 x.kind, .int .i64 x.n, .string x.s], .agg #[.int .i64 y.kind, .int .i64 y.n, .string y.s], .agg #[.int .i64 z.kind, .int .i64 z.n, .string z.s]] W fun e W' => e = .returned (.tuple #[.agg #[.int .i64 3, .int .i64 0, .string r], excZ]) ∧ Sep w Rs W' := by
 subst hr
 exact sl_str S i hi x y z hx f t hf ht hfo hto he1 he2
theorem sl_rows (S : Sep w Rs W) (i : Nat) (hi : Rs[i]? = some (heapR h H)) {N : Nat} (G : H.Good N) (hN : N + 1 ≤ 4000000) (x y z : V) (hr : H.rowB x = true) (f t : Int) (hf : endN y 0 = f) (ht : endN z ((H.items x).length : Nat) = t) (hfo : okI f) (hto : okI t) (he1 : endB y = true) (he2 : endB z = true) (r : List V) (hrr : sliceL (H.items x) f t = r) (hl : r.length ≤ 4096) : Calls Tryz.prog 19 #[.pointer (some ⟨h, 0, none⟩), .agg #[.int .i64 x.kind, .int .i64 x.n, .string x.s], .agg #[.int .i64 y.kind, .int .i64 y.n, .string y.s], .agg #[.int .i64 z.kind, .int .i64 z.n, .string z.s]] W fun e W' => e = .returned (.tuple #[.agg #[.int .i64 4, .int .i64 (H.last + 1), .string ⟨#[]⟩], excZ]) ∧ Sep w (Rs.set i (heapR h (H.add (rowO (H.kind x) (H.okKind x) r)))) W' := by
 subst hrr
 exact sl_row S i hi G hN x y z hr f t hf ht hfo hto he1 he2 (by rw [← sliceL_len]; exact hl)
end
end Go.Proofs.YtijlebhoapdfnaaGreat
