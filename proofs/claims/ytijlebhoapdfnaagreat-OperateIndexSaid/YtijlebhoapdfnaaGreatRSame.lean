/- ch 16: the reference's equality. -/
import Derived.Test.YtijlebhoapdfnaaGreatAlike16
import Derived.Test.YtijlebhoapdfnaaGreatRows3
import Derived.Test.YtijlebhoapdfnaaGreatFit
import Derived.Test.YtijlebhoapdfnaaGreatOperM
/- ch 16: equality is an equivalence, where nothing is raised. -/
namespace Go.Proofs.YtijlebhoapdfnaaGreat
set_option linter.unusedSimpArgs false
open Go.RowKit
set_option linter.unusedVariables false
section
variable {H : HeapM}
theorem kind_four {v : V} (h : H.kind v ≠ 0) : v.kind = 4 := by
 unfold HeapM.kind HeapM.of at h
 by_cases e : v.kind = 4
 ·
  exact e
 ·
  rw [if_neg e] at h; exact absurd rfl h
theorem of_same {a b : V} (ha : H.kind a ≠ 0) (hb : H.kind b ≠ 0) (hn : a.n = b.n) : H.of a = H.of b := by
 unfold HeapM.of
 rw [if_pos (kind_four ha), if_pos (kind_four hb), hn]
/-- What is within: the third way of sameT. -/
def HeapM.inside (H : HeapM) (f : Nat) (a b : V) : Option Bool :=
 if H.kind a = 3 then allM (fun k : V => match H.get b k with | none => some false | some y => H.sameF f ((H.get a k).getD V.zero) y) ((H.pairs a).map (·.1))
 else allM (fun p : V × V => H.sameF f p.1 p.2) ((H.items a).zip (H.items b))
end
end Go.Proofs.YtijlebhoapdfnaaGreat
/- ch 16: equality as the reference asks (plain). -/
namespace Go.Proofs.YtijlebhoapdfnaaGreat
set_option linter.unusedSimpArgs false
open Go.RowKit
set_option linter.unusedVariables false
section
variable {H : HeapM}
end
end Go.Proofs.YtijlebhoapdfnaaGreat
set_option maxRecDepth 100000
set_option maxHeartbeats 12800000
namespace Go.Proofs.YtijlebhoapdfnaaGreat
set_option linter.unusedSimpArgs false
open Go.RowKit
set_option linter.unusedVariables false
attribute [local irreducible] wpSeqS wpAnyS wpPreS
section
variable {w W : World} {Rs : List Res} {h : Nat} {H : HeapM}
theorem rexc_ok (S : Sep w Rs W) (s : ByteArray) : Calls Tryz.prog 94 #[.string s] W fun e W' => e = .returned (excN s) ∧ Sep w Rs W' := by
 obtain ⟨b, hb⟩ : ∃ gx_, (W.heap.size) = gx_ := ⟨_, rfl⟩
 replace S := (S.alloc (.cells #[.string ⟨#[]⟩, .int .i64 0, .int .i64 0, .string ⟨#[]⟩, .bool false] 33))
 simp only [World.size_alloc, hb] at S
 obtain ⟨bA, hbs⟩ : ∃ l, l = Rs := ⟨_, rfl⟩
 have HBS := Lib.hid hbs
 replace S := enterP (w := w) (all := [boxE b]) (E := [boxE b]) (B := []) (Rs := Rs) S hbs (perm_of [0] (by show (List.range' 0 1).Perm [0]; decide) (by rfl))
 clear hbs
 replace S := Lib.hid S
 go_enter Tryz.func94, Tryz.ntmps94
 go_upto_region 1 with fail
 try simp only [World.size_alloc, hb]
 clear hb
 refine regionL (E := [boxE b]) (base := bA) S.out ?_
 clear S
 iterate 2 refine qa ?_
 refine qd undef [boxN b s] (h1 := fun Wx hSw => by (have hz := hSw.box (b := b) (o := objE) 0 rfl; refine useZ5 hz fun z0 z1 z2 z3 z4 y0 y1 y2 y3 y4 => ?_; go_simp; exact ⟨rfl, hSw.set5 0 rfl (.string s) (.int .i64 0) (.int .i64 0) (.string ⟨#[]⟩) (.bool false)⟩)) (h2 := ?_)
 refine doneL (h := fun w1 S => ?_)
 refine useR5 (S.box (b := b) (o := objN s) 0 rfl) fun r0 r1 r2 r3 r4 => ?_
 replace S := Lib.hid S
 repeat (first | go_values | go_skip | go_guarded | go_step)
 refine bodyPost_ret (v := excN s) ?_ ?_ ?_
 ·
  simp [results, Tryz.results94, go_sem, r0, r1, r2, r3, r4]
 ·
  rfl
 refine ⟨rfl, ?_⟩
 replace S := S.out
 rw [HBS.out] at S
 exact S.tail
theorem rwrong_ok (S : Sep w Rs W) : Calls Tryz.prog 49 #[] W fun e W' => e = .returned (.tuple #[zeroV, excN typeError]) ∧ Sep w Rs W' := by
 obtain ⟨b, hb⟩ : ∃ gx_, (W.heap.size) = gx_ := ⟨_, rfl⟩
 replace S := ((S.alloc (.cells #[.int .i64 0, .int .i64 0, .string ⟨#[]⟩] 24)).alloc (.cells #[.string ⟨#[]⟩, .int .i64 0, .int .i64 0, .string ⟨#[]⟩, .bool false] 33))
 simp only [World.size_alloc, hb] at S
 obtain ⟨bA, hbs⟩ : ∃ l, l = Rs := ⟨_, rfl⟩
 have HBS := Lib.hid hbs
 replace S := enterP (w := w) (all := [boxE (b + 1), boxZ b]) (E := [boxE (b + 1), boxZ b]) (B := []) (Rs := Rs) S hbs (perm_of [0, 1] (by show (List.range' 0 2).Perm [0, 1]; decide) (by rfl))
 clear hbs
 replace S := Lib.hid S
 go_enter Tryz.func49, Tryz.ntmps49
 go_upto_region 1 with fail
 try simp only [World.size_alloc, hb]
 clear hb
 have KE : QuietC w bA 94 #[.string typeError] (excN typeError) := Lib.hid fun W Q T => by
  exact rexc_ok T typeError
 refine regionL (E := [boxE (b + 1), boxZ b]) (base := bA) S.out ?_
 clear S
 refine qa ?_
 refine qk KE ?_
 refine qd undef [boxE (b + 1), boxZ b] (h1 := fun Wx hSw => by (have hz := hSw.box (b := b) (o := objZ) 1 rfl; refine useZ3 hz fun z0 z1 z2 y0 y1 y2 => ?_; go_simp; exact ⟨rfl, hSw.set3 1 rfl (.int .i64 0) (.int .i64 0) (.string ⟨#[]⟩)⟩)) (h2 := ?_)
 refine qd undef [boxN (b + 1) typeError, boxZ b] (h1 := fun Wx hSw => by (have hz := hSw.box (b := (b + 1)) (o := objE) 0 rfl; refine useZ5 hz fun z0 z1 z2 z3 z4 y0 y1 y2 y3 y4 => ?_; go_simp; exact ⟨rfl, hSw.set5 0 rfl (.string typeError) (.int .i64 0) (.int .i64 0) (.string ⟨#[]⟩) (.bool false)⟩)) (h2 := ?_)
 refine doneL (h := fun w1 S => ?_)
 refine useR3 (S.box (b := b) (o := objZ) 1 rfl) fun r0 r1 r2 => ?_
 refine useR5 (S.box (b := b + 1) (o := objN typeError) 0 rfl) fun r3 r4 r5 r6 r7 => ?_
 replace S := Lib.hid S
 repeat (first | go_values | go_skip | go_guarded | go_step)
 refine bodyPost_ret (v := .tuple #[zeroV, excN typeError]) ?_ ?_ ?_
 ·
  simp [results, Tryz.results49, go_sem, r0, r1, r2, r3, r4, r5, r6, r7]
 ·
  rfl
 refine ⟨rfl, ?_⟩
 replace S := S.out
 rw [HBS.out] at S
 exact S.tail.tail
theorem rrow_ok (S : Sep w Rs W) (i : Nat) (hi : Rs[i]? = some (refR h H)) (x : V) (rk : Int) (hk : (if H.rowB x = true then H.kind x else 0) = rk) : Calls Tryz.prog 58 #[.pointer (some ⟨h, 0, none⟩), .agg #[.int .i64 x.kind, .int .i64 x.n, .string x.s]] W fun e W' => e = .returned (.int .i64 rk) ∧ Sep w Rs W' := by
 obtain ⟨kx, hK⟩ : ∃ k, H.kind x = k := ⟨_, rfl⟩
 have hv : (if kx = 1 ∨ kx = 2 then kx else 0) = rk := by rw [← hk]; unfold HeapM.rowB; rw [hK]; simp
 have HK := Lib.hid hK
 have HV := Lib.hid hv
 clear hK hk hv
 obtain ⟨b, hb⟩ : ∃ gx_, (W.heap.size) = gx_ := ⟨_, rfl⟩
 replace S := (S.alloc (.cells #[.int .i64 x.kind, .int .i64 x.n, .string x.s] 24))
 simp only [World.size_alloc, hb] at S
 obtain ⟨bA, hbs⟩ : ∃ l, l = boxV b x :: Rs := ⟨_, rfl⟩
 have HBS := Lib.hid hbs
 replace S := enterP (w := w) (all := [boxV b x]) (E := []) (B := [boxV b x]) (Rs := Rs) S hbs (perm_of [0] (by show (List.range' 0 1).Perm [0]; decide) (by rfl))
 have C0 := baseC3 (w := w) (b := b) hbs 0 rfl
 clear hbs
 replace S := Lib.hid S
 go_enter Tryz.func58, Tryz.ntmps58
 go_upto_region 1 with fail
 try simp only [World.size_alloc, hb]
 clear hb
 have KK : QuietC w bA 60 #[hpV h, agV x] (.int .i64 kx) := Lib.hid fun W Q T => by
  rw [HBS.out] at T ⊢
  exact rkind_at T (Q.length + 1 + i) (atI1 hi) x kx HK.out
 refine regionL (E := []) (base := bA) S.out ?_
 clear S
 refine qa ?_
 refine qc C0 ?_
 refine qk KK ?_
 refine qa ?_
 refine doneL (h := fun w1 S => ?_)
 replace S := Lib.hid S
 by_cases h1 : kx = 1
 ·
  have e : rk = 1 := by have := HV.out; rw [if_pos (.inl h1)] at this; omega
  subst e h1
  go_upto_region 2 with fail
  refine regionL (E := []) (base := bA) S.out ?_
  clear S
  iterate 3 refine qa ?_
  iterate 2 refine qz ?_
  refine qa ?_
  refine doneL (h := fun w2 S => ?_)
  replace S := Lib.hid S
  go_upto_region 3 with fail
  refine regionL (E := []) (base := bA) S.out ?_
  clear S
  iterate 2 refine qa ?_
  refine doneL (h := fun w3 S => ?_)
  replace S := Lib.hid S
  go_wp2
  refine bodyPost_ret (v := .int .i64 1) ?_ ?_ ?_
  ·
   simp [results, Tryz.results58, go_sem]
  ·
   rfl
  refine ⟨rfl, ?_⟩
  replace S := S.out
  rw [HBS.out] at S
  exact S.tail
 by_cases h2 : kx = 2
 ·
  have e : rk = 2 := by have := HV.out; rw [if_pos (.inr h2)] at this; omega
  subst e h2
  clear h1
  go_upto_region 2 with fail
  refine regionL (E := []) (base := bA) S.out ?_
  clear S
  iterate 6 refine qa ?_
  refine doneL (h := fun w4 S => ?_)
  replace S := Lib.hid S
  go_upto_region 3 with fail
  refine regionL (E := []) (base := bA) S.out ?_
  clear S
  iterate 2 refine qa ?_
  refine doneL (h := fun w5 S => ?_)
  replace S := Lib.hid S
  go_wp2
  refine bodyPost_ret (v := .int .i64 2) ?_ ?_ ?_
  ·
   simp [results, Tryz.results58, go_sem]
  ·
   rfl
  refine ⟨rfl, ?_⟩
  replace S := S.out
  rw [HBS.out] at S
  exact S.tail
 ·
  have e : rk = 0 := by have := HV.out; rw [if_neg (by rintro (e | e); exact h1 e; exact h2 e)] at this; omega
  subst e
  have e1 : (kx == 1) = false := by simp [h1]
  have e2 : (kx == 2) = false := by simp [h2]
  go_upto_region 2 with fail
  refine regionL (E := []) (base := bA) S.out ?_
  clear S
  iterate 6 refine qa ?_
  refine doneL (h := fun w6 S => ?_)
  replace S := Lib.hid S
  go_upto_region 4 with fail
  refine regionL (E := []) (base := bA) S.out ?_
  clear S
  refine qa ?_
  refine doneL (h := fun w7 S => ?_)
  replace S := Lib.hid S
  go_wp2
  refine bodyPost_ret (v := .int .i64 0) ?_ ?_ ?_
  ·
   simp [results, Tryz.results58, go_sem]
  ·
   rfl
  refine ⟨rfl, ?_⟩
  replace S := S.out
  rw [HBS.out] at S
  exact S.tail
theorem rlen_ok (S : Sep w Rs W) (i : Nat) (hi : Rs[i]? = some (refR h H)) {N : Nat} (G : H.Good N) (hN : N ≤ 4000000) (x : V) (n : Nat) (hn : (H.items x).length = n) : Calls Tryz.prog 66 #[.pointer (some ⟨h, 0, none⟩), .agg #[.int .i64 x.kind, .int .i64 x.n, .string x.s]] W fun e W' => e = .returned (.int .i64 n) ∧ Sep w Rs W' := by
 obtain ⟨XS, hXS⟩ : ∃ l, H.items x = l := ⟨_, rfl⟩
 rw [hXS] at hn
 subst hn
 have HXS := Lib.hid hXS
 clear hXS
 obtain ⟨b, hb⟩ : ∃ gx_, (W.heap.size) = gx_ := ⟨_, rfl⟩
 replace S := (S.alloc (.cells #[.int .i64 x.kind, .int .i64 x.n, .string x.s] 24))
 simp only [World.size_alloc, hb] at S
 obtain ⟨bA, hbs⟩ : ∃ l, l = boxV b x :: Rs := ⟨_, rfl⟩
 have HBS := Lib.hid hbs
 replace S := enterP (w := w) (all := [boxV b x]) (E := []) (B := [boxV b x]) (Rs := Rs) S hbs (perm_of [0] (by show (List.range' 0 1).Perm [0]; decide) (by rfl))
 have C0 := baseC3 (w := w) (b := b) hbs 0 rfl
 clear hbs
 replace S := Lib.hid S
 go_enter Tryz.func66, Tryz.ntmps66
 go_upto_region 1 with fail
 try simp only [World.size_alloc, hb]
 clear hb
 have KI : Hid (∀ W (Q : List Res), Sep w (Q ++ bA) W → Calls Tryz.prog 61 #[.pointer (some ⟨h, 0, none⟩), .agg #[.int .i64 x.kind, .int .i64 x.n, .string x.s]] W fun e W' => ∃ a c, e = .returned (.slice a XS.length c) ∧ Sep w (valsR (.slice a XS.length c) XS :: (Q ++ bA)) W') := Lib.hid fun W Q T => by
  rw [HBS.out] at T ⊢
  exact ritems_at T (Q.length + 1 + i) (atI1 hi) G hN x XS HXS.out
 refine regionL (E := [emptyR]) (base := bA) (Sep.putE S.out) ?_
 clear S
 refine qa ?_
 refine qc C0 ?_
 refine stepL (fun v E1 => ∃ (a_1_1 : Option Addr) (c_1_1 : Nat), v = .slice a_1_1 XS.length c_1_1 ∧ E1 = [valsR (.slice a_1_1 XS.length c_1_1) XS]) (h1 := fun Wx hSw => by (go_simp; refine symCallN ?_; exact (KI.out _ _ hSw).mono fun e W' ⟨a, c, e1, e2⟩ => ⟨_, _, e1, ⟨a, c, rfl, rfl⟩, e2.into 0 rfl⟩)) (h2 := fun v E1 hvE => ?_)
 obtain ⟨a_1_1, c_1_1, rfl, rfl⟩ := hvE; simp only [Act.put, pa]; try dsimp only [List.set]
 iterate 2 refine qa ?_
 refine doneL (h := fun w1 S => ?_)
 replace S := Lib.hid S
 go_wp2
 refine bodyPost_ret (v := .int .i64 XS.length) ?_ ?_ ?_
 ·
  simp [results, Tryz.results66, go_sem]
 ·
  rfl
 refine ⟨rfl, ?_⟩
 replace S := S.out
 rw [HBS.out] at S
 exact S.tail.tail
end
end Go.Proofs.YtijlebhoapdfnaaGreat
