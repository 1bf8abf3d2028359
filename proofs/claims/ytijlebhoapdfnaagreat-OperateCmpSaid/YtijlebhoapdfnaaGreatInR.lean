/- ch 16: in, of rows and of strs. -/
import Derived.Test.YtijlebhoapdfnaaGreatRowT
import Derived.Test.YtijlebhoapdfnaaGreatOprD
import Derived.Test.YtijlebhoapdfnaaGreatLawC
import Derived.Test.YtijlebhoapdfnaaGreatOprN
import Derived.Test.YtijlebhoapdfnaaGreatOprO
set_option maxRecDepth 100000
set_option maxHeartbeats 12800000
namespace Go.Proofs.YtijlebhoapdfnaaGreat
set_option linter.unusedSimpArgs false
open Go.RowKit
set_option linter.unusedVariables false
/-- Whether a value is among these: the first that is equal, or too deep. -/
def HeapM.inL (H : HeapM) (x : V) : List V → Option Bool
 | [] => some false
 | z :: l => match H.sameF 30 z x with | some false => HeapM.inL H x l | r => r
theorem inL_all {H : HeapM} {x : V} : ∀ {l : List V}, (∀ z ∈ l, H.sameF 30 z x = some false) → H.inL x l = some false
 | [], _ => rfl
 | z :: l, h => by rw [HeapM.inL, h z (List.mem_cons_self ..)]; exact inL_all fun q hq => h q (List.mem_cons_of_mem _ hq)
theorem inL_stop {H : HeapM} {x z : V} : ∀ {l : List V} {k : Nat}, l[k]? = some z → (∀ q ∈ l.take k, H.sameF 30 q x = some false) → H.sameF 30 z x ≠ some false → H.inL x l = H.sameF 30 z x
 | [], k, hk, _, _ => by simp at hk
 | a :: l, 0, hk, _, hne => by
  simp at hk; subst hk
  rw [HeapM.inL]
  split
  ·
   rename_i e; exact absurd e hne
  ·
   rfl
 | a :: l, k + 1, hk, hall, hne => by
  rw [HeapM.inL, hall a (by simp)]
  exact inL_stop (l := l) (k := k) (by simpa using hk) (fun q hq => hall q (by simp [hq])) hne
section
variable {w W : World} {Rs : List Res} {h : Nat} {H : HeapM}
theorem in_row (S : Sep w Rs W) (i : Nat) (hi : Rs[i]? = some (heapR h H)) {N : Nat} (G : H.Good N) (hN : N ≤ 4000000) (x y : V) (hs : ¬ x.kind = 3) (hr : H.rowB y = true) : Calls Tryz.prog 115 #[.pointer (some ⟨h, 0, none⟩), .agg #[.int .i64 x.kind, .int .i64 x.n, .string x.s], .agg #[.int .i64 y.kind, .int .i64 y.n, .string y.s]] W fun e W' => e = .returned (sameC (H.inL x (H.items y))).val ∧ Sep w Rs W' := by
 have e1 : (x.kind == 3) = false := by simpa using hs
 obtain ⟨Y1, hY1⟩ : ∃ l, l = H.items y := ⟨_, rfl⟩
 rw [← hY1]
 have hgy : Y1.length ≤ N := by rw [hY1]; exact G.items y
 have hyb : (Y1.length : Int) ≤ 4000000 := by omega
 obtain ⟨rr, hrr⟩ : ∃ r, r = H.inL x Y1 := ⟨_, rfl⟩
 rw [← hrr]
 have HRR := Lib.hid hrr
 have HY := Lib.hid hY1
 have HR := Lib.hid hr
 clear hs hr hY1 hgy hrr
 obtain ⟨b, hb⟩ : ∃ gx_, (W.heap.size) = gx_ := ⟨_, rfl⟩
 replace S := (((S.alloc (.cells #[.int .i64 x.kind, .int .i64 x.n, .string x.s] 24)).alloc (.cells #[.int .i64 y.kind, .int .i64 y.n, .string y.s] 24)).alloc (.cells #[.string ⟨#[]⟩, .int .i64 0, .int .i64 0, .string ⟨#[]⟩, .bool false] 33))
 simp only [World.size_alloc, hb] at S
 obtain ⟨bA, hbs⟩ : ∃ l, l = boxV (b + 1) y :: boxV b x :: Rs := ⟨_, rfl⟩
 have HBS := Lib.hid hbs
 replace S := enterP (w := w) (all := [boxE (b + 1 + 1), boxV (b + 1) y, boxV b x]) (E := [boxE (b + 1 + 1)]) (B := [boxV (b + 1) y, boxV b x]) (Rs := Rs) S hbs (perm_of [0, 1, 2] (by show (List.range' 0 3).Perm [0, 1, 2]; decide) (by rfl))
 have C1 := baseC3 (w := w) (b := b + 1) hbs 0 rfl
 have C0 := baseC3 (w := w) (b := b) hbs 1 rfl
 clear hbs
 replace S := Lib.hid S
 go_enter Tryz.func115, Tryz.ntmps115
 go_upto_region 1 with fail
 try simp only [World.size_alloc, hb]
 clear hb
 refine regionL (E := [boxE (b + 1 + 1)]) (base := bA) S.out ?_
 clear S
 refine qa ?_
 refine qc C0 ?_
 iterate 2 refine qa ?_
 iterate 3 refine qz ?_
 iterate 2 refine qa ?_
 intro w1 S
 replace S := Lib.hid S
 clear e1
 have KR : QuietC w bA 84 #[hpV h, agV y] (.bool true) := Lib.hid fun W Q T => by
  rw [HBS.out] at T ⊢
  exact row_ok T (Q.length + 2 + i) (atI2 hi) y _ HR.out
 go_upto_region 3 with fail
 refine regionL (E := [boxE (b + 1 + 1)]) (base := bA) S.out ?_
 clear S
 refine qa ?_
 refine qc C1 ?_
 refine qk KR ?_
 refine qa ?_
 intro w2 S
 replace S := Lib.hid S
 have KI : Hid (∀ W (Q : List Res), Sep w (Q ++ bA) W → Calls Tryz.prog 78 #[.pointer (some ⟨h, 0, none⟩), .agg #[.int .i64 y.kind, .int .i64 y.n, .string y.s]] W fun e W' => ∃ a c, e = .returned (.slice a Y1.length c) ∧ Sep w (valsR (.slice a Y1.length c) Y1 :: (Q ++ bA)) W') := Lib.hid fun W Q T => by
  rw [HBS.out] at T ⊢
  exact items_at T (Q.length + 2 + i) (atI2 hi) G hN y Y1 HY.out.symm
 go_upto_region 4 with fail
 refine regionL (E := [emptyR, boxE (b + 1 + 1)]) (base := bA) (Sep.putE S.out) ?_
 clear S
 refine qa ?_
 refine qc C1 ?_
 refine stepL (fun v E1 => ∃ (a1 : Option Addr) (c1 : Nat), v = .slice a1 Y1.length c1 ∧ E1 = [valsR (.slice a1 Y1.length c1) Y1, boxE (b + 1 + 1)]) (h1 := fun Wx hSw => by (go_simp; refine symCallN ?_; exact (KI.out _ _ hSw).mono fun e W' ⟨a, c, e1, e2⟩ => ⟨_, _, e1, ⟨a, c, rfl, rfl⟩, e2.into 0 rfl⟩)) (h2 := fun v E1 hvE => ?_)
 obtain ⟨a1, c1, rfl, rfl⟩ := hvE; simp only [Act.put, pa]; try dsimp only [List.set]
 iterate 2 refine qa ?_
 intro w3 S
 replace S := Lib.hid S
 go_wp2
 go_loopw [38] (fun s38 wr => ∃ k : Nat, k ≤ Y1.length ∧ s38 = .int .i64 k ∧ Hid (∀ q ∈ Y1.take k, H.sameF 30 q x = some false) ∧ Sep w ([valsR (.slice a1 Y1.length c1) Y1, boxE (b + 1 + 1)] ++ bA) wr) (fun s38 _ => Y1.length - (intOf s38).toNat)
 case atStart => exact ⟨0, Nat.zero_le _, rfl, Lib.hid (by simp), S.out⟩
 case round =>
  obtain ⟨k, hk, rfl, HA, S⟩ := hrel
  replace S := Lib.hid S
  by_cases hlt : k < Y1.length
  ·
   have hlti : (k : Int) < Y1.length := by omega
   obtain ⟨z, hz⟩ : ∃ z, Y1[k]? = some z := ⟨Y1[k], by simp [hlt]⟩
   obtain ⟨g, og, hag⟩ := (S.out.seesV 0 rfl).some_at (show 0 < Y1.length by omega)
   subst hag
   have HZ := Lib.hid hz
   have HLT := Lib.hid hlt
   clear hz hk hlt
   go_upto_region 6 with fail
   refine regionL (E := [emptyR, valsR (.slice (some ⟨g, og, none⟩) Y1.length c1) Y1, boxE (b + 1 + 1)]) (base := bA) (Sep.putE S.out) ?_
   clear S
   refine qa ?_
   refine qd (.agg #[.int .i64 z.kind, .int .i64 z.n, .string z.s]) [emptyR, valsR (.slice (some ⟨g, og, none⟩) Y1.length c1) Y1, boxE (b + 1 + 1)] (h1 := fun Wx hSw => by (obtain ⟨d0, d1, d2⟩ := sepThree hSw 1 rfl HZ.out; go_simp; exact ⟨rfl, hSw⟩)) (h2 := ?_)
   refine allocL 0 rfl (fun q => .pointer (some ⟨q, 0, none⟩)) (.cells #[.int .i64 0, .int .i64 0, .string ⟨#[]⟩] 24) (h1 := fun Wx => by go_simp) (h2 := fun qz92 => ?_); simp only [Act.put, pa]; try dsimp only [List.set]
   try simp only [List.set_cons_zero, List.set_cons_succ]
   refine qd undef [boxV qz92 z, valsR (.slice (some ⟨g, og, none⟩) Y1.length c1) Y1, boxE (b + 1 + 1)] (h1 := fun Wx hSw => by (have hz := hSw.box (b := qz92) (o := objZ) 0 rfl; refine useZ3 hz fun z0 z1 z2 y0 y1 y2 => ?_; go_simp; exact ⟨rfl, hSw.set3 0 rfl (.int .i64 z.kind) (.int .i64 z.n) (.string z.s)⟩)) (h2 := ?_)
   intro w4 S
   replace S := Lib.hid S
   obtain ⟨r, hr⟩ : ∃ r, r = H.sameF 30 z x := ⟨_, rfl⟩
   have HS := Lib.hid hr
   clear hr
   match r, HS with
   | some false, HS =>
    have KS : QuietC w bA 27 #[hpV h, agV z, agV x] (.tuple #[.bool false, excZ]) := Lib.hid fun W Q T => by
     rw [HBS.out] at T ⊢
     exact (by have hh := sameOp_ok G hN (Q.length + 2 + i) T (atI2 hi) z x; rw [← HS.out] at hh; exact hh)
    go_upto_region 7 with fail
    refine regionL (E := [emptyR, boxV qz92 z, valsR (.slice (some ⟨g, og, none⟩) Y1.length c1) Y1, boxE (b + 1 + 1)]) (base := bA) (Sep.putE S.out) ?_
    clear S
    refine qa ?_
    refine qd _ [emptyR, boxV qz92 z, valsR (.slice (some ⟨g, og, none⟩) Y1.length c1) Y1, boxE (b + 1 + 1)] (h1 := fun Wx hSw => by (have hz := hSw.box (b := qz92) (o := objV z) 1 rfl; have z0 := cellAt hz 0 (v := .int .i64 z.kind) rfl; have z1 := cellAt hz 1 (v := .int .i64 z.n) rfl; have z2 := cellAt hz 2 (v := .string z.s) rfl; go_simp; exact ⟨rfl, hSw⟩)) (h2 := ?_)
    refine qc C0 ?_
    refine qk KS ?_
    iterate 3 refine qa ?_
    refine allocL 0 rfl (fun q => .pointer (some ⟨q, 0, none⟩)) (.cells #[.string ⟨#[]⟩, .int .i64 0, .int .i64 0, .string ⟨#[]⟩, .bool false] 33) (h1 := fun Wx => by go_simp) (h2 := fun qe112 => ?_); simp only [Act.put, pa]; try dsimp only [List.set]
    try simp only [List.set_cons_zero, List.set_cons_succ]
    refine qa ?_
    refine qd undef [boxE qe112, boxV qz92 z, valsR (.slice (some ⟨g, og, none⟩) Y1.length c1) Y1, boxE (b + 1 + 1)] (h1 := fun Wx hSw => by (have hz := hSw.box (b := qe112) (o := objE) 0 rfl; refine useZ5 hz fun z0 z1 z2 z3 z4 y0 y1 y2 y3 y4 => ?_; go_simp; exact ⟨rfl, hSw.set5 0 rfl (.string ⟨#[]⟩) (.int .i64 0) (.int .i64 0) (.string ⟨#[]⟩) (.bool false)⟩)) (h2 := ?_)
    intro w5 S
    replace S := Lib.hid S
    go_upto_region 8 with fail
    refine regionL (E := [boxE qe112, boxV qz92 z, valsR (.slice (some ⟨g, og, none⟩) Y1.length c1) Y1, boxE (b + 1 + 1)]) (base := bA) S.out ?_
    clear S
    iterate 3 refine qa ?_
    refine qd _ [boxE qe112, boxV qz92 z, valsR (.slice (some ⟨g, og, none⟩) Y1.length c1) Y1, boxE (b + 1 + 1)] (h1 := fun Wx hSw => by (have hz := hSw.box (b := qe112) (o := objE) 0 rfl; have z0 := cellAt hz 0 (v := .string ⟨#[]⟩) rfl; have z1 := cellAt hz 1 (v := .int .i64 0) rfl; have z2 := cellAt hz 2 (v := .int .i64 0) rfl; have z3 := cellAt hz 3 (v := .string ⟨#[]⟩) rfl; have z4 := cellAt hz 4 (v := .bool false) rfl; go_simp; exact ⟨rfl, hSw⟩)) (h2 := ?_)
    iterate 2 refine qa ?_
    intro w6 S
    replace S := Lib.hid S
    have hi1 : IntKind.i64.wrap ((k : Int) + 1) = (k : Int) + 1 := IntWalk.i64_in _ (by omega)
    replace S := Lib.hid S.out.tail.tail
    go_wp2
    exact ⟨⟨k + 1, HLT.out, by go_num, Lib.hid (take_snoc HZ.out HA.out HS.out.symm), S.out⟩, by have := HLT.out; simp [intOf]; omega⟩
   | some true, HS =>
    have KS : QuietC w bA 27 #[hpV h, agV z, agV x] (.tuple #[.bool true, excZ]) := Lib.hid fun W Q T => by
     rw [HBS.out] at T ⊢
     exact (by have hh := sameOp_ok G hN (Q.length + 2 + i) T (atI2 hi) z x; rw [← HS.out] at hh; exact hh)
    go_upto_region 7 with fail
    refine regionL (E := [emptyR, boxV qz92 z, valsR (.slice (some ⟨g, og, none⟩) Y1.length c1) Y1, boxE (b + 1 + 1)]) (base := bA) (Sep.putE S.out) ?_
    clear S
    refine qa ?_
    refine qd _ [emptyR, boxV qz92 z, valsR (.slice (some ⟨g, og, none⟩) Y1.length c1) Y1, boxE (b + 1 + 1)] (h1 := fun Wx hSw => by (have hz := hSw.box (b := qz92) (o := objV z) 1 rfl; have z0 := cellAt hz 0 (v := .int .i64 z.kind) rfl; have z1 := cellAt hz 1 (v := .int .i64 z.n) rfl; have z2 := cellAt hz 2 (v := .string z.s) rfl; go_simp; exact ⟨rfl, hSw⟩)) (h2 := ?_)
    refine qc C0 ?_
    refine qk KS ?_
    iterate 3 refine qa ?_
    refine allocL 0 rfl (fun q => .pointer (some ⟨q, 0, none⟩)) (.cells #[.string ⟨#[]⟩, .int .i64 0, .int .i64 0, .string ⟨#[]⟩, .bool false] 33) (h1 := fun Wx => by go_simp) (h2 := fun qe112 => ?_); simp only [Act.put, pa]; try dsimp only [List.set]
    try simp only [List.set_cons_zero, List.set_cons_succ]
    refine qa ?_
    refine qd undef [boxE qe112, boxV qz92 z, valsR (.slice (some ⟨g, og, none⟩) Y1.length c1) Y1, boxE (b + 1 + 1)] (h1 := fun Wx hSw => by (have hz := hSw.box (b := qe112) (o := objE) 0 rfl; refine useZ5 hz fun z0 z1 z2 z3 z4 y0 y1 y2 y3 y4 => ?_; go_simp; exact ⟨rfl, hSw.set5 0 rfl (.string ⟨#[]⟩) (.int .i64 0) (.int .i64 0) (.string ⟨#[]⟩) (.bool false)⟩)) (h2 := ?_)
    intro w7 S
    replace S := Lib.hid S
    go_upto_region 8 with fail
    refine regionL (E := [boxE qe112, boxV qz92 z, valsR (.slice (some ⟨g, og, none⟩) Y1.length c1) Y1, boxE (b + 1 + 1)]) (base := bA) S.out ?_
    clear S
    iterate 2 refine qa ?_
    iterate 3 refine qz ?_
    refine qa ?_
    intro w8 S
    replace S := Lib.hid S
    have hv : rr = some true := by rw [HRR.out, HS.out]; exact inL_stop HZ.out HA.out (by rw [← HS.out]; simp)
    subst hv
    go_upto_region 9 with fail
    refine regionP 1 3 (E := [boxE qe112, boxV qz92 z, valsR (.slice (some ⟨g, og, none⟩) Y1.length c1) Y1, boxE (b + 1 + 1)]) (base := bA) S.out ?_
    clear S
    refine qp ?_
    refine endP ?_
    refine qs 2 ?_
    refine readyS [1] ?_
    refine detS _ [boxE qe112, boxV qz92 z, valsR (.slice (some ⟨g, og, none⟩) Y1.length c1) Y1, boxE (b + 1 + 1)] (h1 := fun Wx hSw => by (have hz := hSw.box (b := qe112) (o := objE) 0 rfl; have z0 := cellAt hz 0 (v := .string ⟨#[]⟩) rfl; have z1 := cellAt hz 1 (v := .int .i64 0) rfl; have z2 := cellAt hz 2 (v := .int .i64 0) rfl; have z3 := cellAt hz 3 (v := .string ⟨#[]⟩) rfl; have z4 := cellAt hz 4 (v := .bool false) rfl; go_simp; exact ⟨rfl, hSw⟩)) (h2 := ?_) (hs := nilS); simp only [Act.put, pa]; try dsimp only [List.set]
    refine readyS [3] ?_
    refine detS undef [boxE qe112, boxV qz92 z, valsR (.slice (some ⟨g, og, none⟩) Y1.length c1) Y1, boxE (b + 1 + 1)] (h1 := fun Wx hSw => by (have hz := hSw.box (b := (b + 1 + 1)) (o := objE) 3 rfl; refine useZ5 hz fun z0 z1 z2 z3 z4 y0 y1 y2 y3 y4 => ?_; go_simp; exact ⟨rfl, hSw.set5 3 rfl (.string ⟨#[]⟩) (.int .i64 0) (.int .i64 0) (.string ⟨#[]⟩) (.bool false)⟩)) (h2 := ?_) (hs := nilS); simp only [Act.put, pa]; try dsimp only [List.set]
    refine doneS (h := fun w9 S => ?_)
    refine useR5 (S.box (b := b + 1 + 1) (o := objE) 3 rfl) fun r0 r1 r2 r3 r4 => ?_
    replace S := Lib.hid S
    repeat (first | go_values | go_skip | go_guarded | go_step)
    refine bodyPost_ret (v := .tuple #[.bool true, excZ]) ?_ ?_ ?_
    ·
     simp [results, Tryz.results115, go_sem, r0, r1, r2, r3, r4]
    ·
     rfl
    refine ⟨rfl, ?_⟩
    replace S := S.out
    rw [HBS.out] at S
    exact S.tail.tail.tail.tail.tail.tail
   | none, HS =>
    have KS : QuietC w bA 27 #[hpV h, agV z, agV x] (.tuple #[.bool false, excN recursionError]) := Lib.hid fun W Q T => by
     rw [HBS.out] at T ⊢
     exact (by have hh := sameOp_ok G hN (Q.length + 2 + i) T (atI2 hi) z x; rw [← HS.out] at hh; exact hh)
    go_upto_region 7 with fail
    refine regionL (E := [emptyR, boxV qz92 z, valsR (.slice (some ⟨g, og, none⟩) Y1.length c1) Y1, boxE (b + 1 + 1)]) (base := bA) (Sep.putE S.out) ?_
    clear S
    refine qa ?_
    refine qd _ [emptyR, boxV qz92 z, valsR (.slice (some ⟨g, og, none⟩) Y1.length c1) Y1, boxE (b + 1 + 1)] (h1 := fun Wx hSw => by (have hz := hSw.box (b := qz92) (o := objV z) 1 rfl; have z0 := cellAt hz 0 (v := .int .i64 z.kind) rfl; have z1 := cellAt hz 1 (v := .int .i64 z.n) rfl; have z2 := cellAt hz 2 (v := .string z.s) rfl; go_simp; exact ⟨rfl, hSw⟩)) (h2 := ?_)
    refine qc C0 ?_
    refine qk KS ?_
    iterate 3 refine qa ?_
    refine allocL 0 rfl (fun q => .pointer (some ⟨q, 0, none⟩)) (.cells #[.string ⟨#[]⟩, .int .i64 0, .int .i64 0, .string ⟨#[]⟩, .bool false] 33) (h1 := fun Wx => by go_simp) (h2 := fun qe112 => ?_); simp only [Act.put, pa]; try dsimp only [List.set]
    try simp only [List.set_cons_zero, List.set_cons_succ]
    refine qa ?_
    refine qd undef [boxN qe112 recursionError, boxV qz92 z, valsR (.slice (some ⟨g, og, none⟩) Y1.length c1) Y1, boxE (b + 1 + 1)] (h1 := fun Wx hSw => by (have hz := hSw.box (b := qe112) (o := objE) 0 rfl; refine useZ5 hz fun z0 z1 z2 z3 z4 y0 y1 y2 y3 y4 => ?_; go_simp; exact ⟨rfl, hSw.set5 0 rfl (.string recursionError) (.int .i64 0) (.int .i64 0) (.string ⟨#[]⟩) (.bool false)⟩)) (h2 := ?_)
    intro w10 S
    replace S := Lib.hid S
    go_upto_region 8 with fail
    refine regionL (E := [boxN qe112 recursionError, boxV qz92 z, valsR (.slice (some ⟨g, og, none⟩) Y1.length c1) Y1, boxE (b + 1 + 1)]) (base := bA) S.out ?_
    clear S
    iterate 3 refine qa ?_
    refine qd _ [boxN qe112 recursionError, boxV qz92 z, valsR (.slice (some ⟨g, og, none⟩) Y1.length c1) Y1, boxE (b + 1 + 1)] (h1 := fun Wx hSw => by (have hz := hSw.box (b := qe112) (o := objN recursionError) 0 rfl; have z0 := cellAt hz 0 (v := .string recursionError) rfl; have z1 := cellAt hz 1 (v := .int .i64 0) rfl; have z2 := cellAt hz 2 (v := .int .i64 0) rfl; have z3 := cellAt hz 3 (v := .string ⟨#[]⟩) rfl; have z4 := cellAt hz 4 (v := .bool false) rfl; go_simp; exact ⟨rfl, hSw⟩)) (h2 := ?_)
    iterate 2 refine qa ?_
    intro w11 S
    replace S := Lib.hid S
    have hv : rr = none := by rw [HRR.out, HS.out]; exact inL_stop HZ.out HA.out (by rw [← HS.out]; simp)
    subst hv
    go_upto_region 9 with fail
    refine regionP 1 3 (E := [boxN qe112 recursionError, boxV qz92 z, valsR (.slice (some ⟨g, og, none⟩) Y1.length c1) Y1, boxE (b + 1 + 1)]) (base := bA) S.out ?_
    clear S
    refine qp ?_
    refine endP ?_
    refine qs 2 ?_
    refine readyS [1] ?_
    refine detS _ [boxN qe112 recursionError, boxV qz92 z, valsR (.slice (some ⟨g, og, none⟩) Y1.length c1) Y1, boxE (b + 1 + 1)] (h1 := fun Wx hSw => by (have hz := hSw.box (b := qe112) (o := objN recursionError) 0 rfl; have z0 := cellAt hz 0 (v := .string recursionError) rfl; have z1 := cellAt hz 1 (v := .int .i64 0) rfl; have z2 := cellAt hz 2 (v := .int .i64 0) rfl; have z3 := cellAt hz 3 (v := .string ⟨#[]⟩) rfl; have z4 := cellAt hz 4 (v := .bool false) rfl; go_simp; exact ⟨rfl, hSw⟩)) (h2 := ?_) (hs := nilS); simp only [Act.put, pa]; try dsimp only [List.set]
    refine readyS [3] ?_
    refine detS undef [boxN qe112 recursionError, boxV qz92 z, valsR (.slice (some ⟨g, og, none⟩) Y1.length c1) Y1, boxN (b + 1 + 1) recursionError] (h1 := fun Wx hSw => by (have hz := hSw.box (b := (b + 1 + 1)) (o := objE) 3 rfl; refine useZ5 hz fun z0 z1 z2 z3 z4 y0 y1 y2 y3 y4 => ?_; go_simp; exact ⟨rfl, hSw.set5 3 rfl (.string recursionError) (.int .i64 0) (.int .i64 0) (.string ⟨#[]⟩) (.bool false)⟩)) (h2 := ?_) (hs := nilS); simp only [Act.put, pa]; try dsimp only [List.set]
    refine doneS (h := fun w12 S => ?_)
    refine useR5 (S.box (b := b + 1 + 1) (o := objN recursionError) 3 rfl) fun r0 r1 r2 r3 r4 => ?_
    replace S := Lib.hid S
    repeat (first | go_values | go_skip | go_guarded | go_step)
    refine bodyPost_ret (v := .tuple #[.bool false, excN recursionError]) ?_ ?_ ?_
    ·
     simp [results, Tryz.results115, go_sem, r0, r1, r2, r3, r4]
    ·
     rfl
    refine ⟨rfl, ?_⟩
    replace S := S.out
    rw [HBS.out] at S
    exact S.tail.tail.tail.tail.tail.tail
  ·
   obtain rfl : k = Y1.length := by omega
   have hno : ¬ ((Y1.length : Int) < Y1.length) := by omega
   have hv : rr = some false := by rw [HRR.out]; exact inL_all (by have := HA.out; rwa [List.take_length] at this)
   subst hv
   clear hlt hk HA
   go_upto_region 11 with fail
   refine regionL (E := [valsR (.slice a1 Y1.length c1) Y1, boxE (b + 1 + 1)]) (base := bA) S.out ?_
   clear S
   iterate 2 refine qa ?_
   refine qd undef [valsR (.slice a1 Y1.length c1) Y1, boxE (b + 1 + 1)] (h1 := fun Wx hSw => by (have hz := hSw.box (b := (b + 1 + 1)) (o := objE) 1 rfl; refine useZ5 hz fun z0 z1 z2 z3 z4 y0 y1 y2 y3 y4 => ?_; go_simp; exact ⟨rfl, hSw.set5 1 rfl (.string ⟨#[]⟩) (.int .i64 0) (.int .i64 0) (.string ⟨#[]⟩) (.bool false)⟩)) (h2 := ?_)
   intro w13 S
   refine useR5 (S.box (b := b + 1 + 1) (o := objE) 1 rfl) fun r0 r1 r2 r3 r4 => ?_
   replace S := Lib.hid S
   repeat (first | go_values | go_skip | go_guarded | go_step)
   refine bodyPost_ret (v := .tuple #[.bool false, excZ]) ?_ ?_ ?_
   ·
    simp [results, Tryz.results115, go_sem, r0, r1, r2, r3, r4]
   ·
    rfl
   refine ⟨rfl, ?_⟩
   replace S := S.out
   rw [HBS.out] at S
   exact S.tail.tail.tail.tail
theorem in_rows (S : Sep w Rs W) (i : Nat) (hi : Rs[i]? = some (heapR h H)) {N : Nat} (G : H.Good N) (hN : N ≤ 4000000) (x y : V) (hs : x.kind = 3) (hr : H.rowB y = true) : Calls Tryz.prog 115 #[.pointer (some ⟨h, 0, none⟩), .agg #[.int .i64 x.kind, .int .i64 x.n, .string x.s], .agg #[.int .i64 y.kind, .int .i64 y.n, .string y.s]] W fun e W' => e = .returned (sameC (H.inL x (H.items y))).val ∧ Sep w Rs W' := by
 have e1 : (x.kind == 3) = true := by simp [hs]
 have e2 : (y.kind == 3) = false := by have := H.kind_ref y (by have := HeapM.rowB_kind hr; omega); simp [this]
 obtain ⟨Y1, hY1⟩ : ∃ l, l = H.items y := ⟨_, rfl⟩
 rw [← hY1]
 have hgy : Y1.length ≤ N := by rw [hY1]; exact G.items y
 have hyb : (Y1.length : Int) ≤ 4000000 := by omega
 obtain ⟨rr, hrr⟩ : ∃ r, r = H.inL x Y1 := ⟨_, rfl⟩
 rw [← hrr]
 have HRR := Lib.hid hrr
 have HY := Lib.hid hY1
 have HR := Lib.hid hr
 clear hs hr hY1 hgy hrr
 obtain ⟨b, hb⟩ : ∃ gx_, (W.heap.size) = gx_ := ⟨_, rfl⟩
 replace S := (((S.alloc (.cells #[.int .i64 x.kind, .int .i64 x.n, .string x.s] 24)).alloc (.cells #[.int .i64 y.kind, .int .i64 y.n, .string y.s] 24)).alloc (.cells #[.string ⟨#[]⟩, .int .i64 0, .int .i64 0, .string ⟨#[]⟩, .bool false] 33))
 simp only [World.size_alloc, hb] at S
 obtain ⟨bA, hbs⟩ : ∃ l, l = boxV (b + 1) y :: boxV b x :: Rs := ⟨_, rfl⟩
 have HBS := Lib.hid hbs
 replace S := enterP (w := w) (all := [boxE (b + 1 + 1), boxV (b + 1) y, boxV b x]) (E := [boxE (b + 1 + 1)]) (B := [boxV (b + 1) y, boxV b x]) (Rs := Rs) S hbs (perm_of [0, 1, 2] (by show (List.range' 0 3).Perm [0, 1, 2]; decide) (by rfl))
 have C1 := baseC3 (w := w) (b := b + 1) hbs 0 rfl
 have C0 := baseC3 (w := w) (b := b) hbs 1 rfl
 clear hbs
 replace S := Lib.hid S
 go_enter Tryz.func115, Tryz.ntmps115
 go_upto_region 1 with fail
 try simp only [World.size_alloc, hb]
 clear hb
 refine regionL (E := [boxE (b + 1 + 1)]) (base := bA) S.out ?_
 clear S
 refine qa ?_
 refine qc C0 ?_
 iterate 3 refine qa ?_
 refine qc C1 ?_
 iterate 3 refine qa ?_
 intro w1 S
 replace S := Lib.hid S
 clear e1 e2
 have KR : QuietC w bA 84 #[hpV h, agV y] (.bool true) := Lib.hid fun W Q T => by
  rw [HBS.out] at T ⊢
  exact row_ok T (Q.length + 2 + i) (atI2 hi) y _ HR.out
 go_upto_region 3 with fail
 refine regionL (E := [boxE (b + 1 + 1)]) (base := bA) S.out ?_
 clear S
 refine qa ?_
 refine qc C1 ?_
 refine qk KR ?_
 refine qa ?_
 intro w2 S
 replace S := Lib.hid S
 have KI : Hid (∀ W (Q : List Res), Sep w (Q ++ bA) W → Calls Tryz.prog 78 #[.pointer (some ⟨h, 0, none⟩), .agg #[.int .i64 y.kind, .int .i64 y.n, .string y.s]] W fun e W' => ∃ a c, e = .returned (.slice a Y1.length c) ∧ Sep w (valsR (.slice a Y1.length c) Y1 :: (Q ++ bA)) W') := Lib.hid fun W Q T => by
  rw [HBS.out] at T ⊢
  exact items_at T (Q.length + 2 + i) (atI2 hi) G hN y Y1 HY.out.symm
 go_upto_region 4 with fail
 refine regionL (E := [emptyR, boxE (b + 1 + 1)]) (base := bA) (Sep.putE S.out) ?_
 clear S
 refine qa ?_
 refine qc C1 ?_
 refine stepL (fun v E1 => ∃ (a1 : Option Addr) (c1 : Nat), v = .slice a1 Y1.length c1 ∧ E1 = [valsR (.slice a1 Y1.length c1) Y1, boxE (b + 1 + 1)]) (h1 := fun Wx hSw => by (go_simp; refine symCallN ?_; exact (KI.out _ _ hSw).mono fun e W' ⟨a, c, e1, e2⟩ => ⟨_, _, e1, ⟨a, c, rfl, rfl⟩, e2.into 0 rfl⟩)) (h2 := fun v E1 hvE => ?_)
 obtain ⟨a1, c1, rfl, rfl⟩ := hvE; simp only [Act.put, pa]; try dsimp only [List.set]
 iterate 2 refine qa ?_
 intro w3 S
 replace S := Lib.hid S
 go_wp2
 go_loopw [38] (fun s38 wr => ∃ k : Nat, k ≤ Y1.length ∧ s38 = .int .i64 k ∧ Hid (∀ q ∈ Y1.take k, H.sameF 30 q x = some false) ∧ Sep w ([valsR (.slice a1 Y1.length c1) Y1, boxE (b + 1 + 1)] ++ bA) wr) (fun s38 _ => Y1.length - (intOf s38).toNat)
 case atStart => exact ⟨0, Nat.zero_le _, rfl, Lib.hid (by simp), S.out⟩
 case round =>
  obtain ⟨k, hk, rfl, HA, S⟩ := hrel
  replace S := Lib.hid S
  by_cases hlt : k < Y1.length
  ·
   have hlti : (k : Int) < Y1.length := by omega
   obtain ⟨z, hz⟩ : ∃ z, Y1[k]? = some z := ⟨Y1[k], by simp [hlt]⟩
   obtain ⟨g, og, hag⟩ := (S.out.seesV 0 rfl).some_at (show 0 < Y1.length by omega)
   subst hag
   have HZ := Lib.hid hz
   have HLT := Lib.hid hlt
   clear hz hk hlt
   go_upto_region 6 with fail
   refine regionL (E := [emptyR, valsR (.slice (some ⟨g, og, none⟩) Y1.length c1) Y1, boxE (b + 1 + 1)]) (base := bA) (Sep.putE S.out) ?_
   clear S
   refine qa ?_
   refine qd (.agg #[.int .i64 z.kind, .int .i64 z.n, .string z.s]) [emptyR, valsR (.slice (some ⟨g, og, none⟩) Y1.length c1) Y1, boxE (b + 1 + 1)] (h1 := fun Wx hSw => by (obtain ⟨d0, d1, d2⟩ := sepThree hSw 1 rfl HZ.out; go_simp; exact ⟨rfl, hSw⟩)) (h2 := ?_)
   refine allocL 0 rfl (fun q => .pointer (some ⟨q, 0, none⟩)) (.cells #[.int .i64 0, .int .i64 0, .string ⟨#[]⟩] 24) (h1 := fun Wx => by go_simp) (h2 := fun qz92 => ?_); simp only [Act.put, pa]; try dsimp only [List.set]
   try simp only [List.set_cons_zero, List.set_cons_succ]
   refine qd undef [boxV qz92 z, valsR (.slice (some ⟨g, og, none⟩) Y1.length c1) Y1, boxE (b + 1 + 1)] (h1 := fun Wx hSw => by (have hz := hSw.box (b := qz92) (o := objZ) 0 rfl; refine useZ3 hz fun z0 z1 z2 y0 y1 y2 => ?_; go_simp; exact ⟨rfl, hSw.set3 0 rfl (.int .i64 z.kind) (.int .i64 z.n) (.string z.s)⟩)) (h2 := ?_)
   intro w4 S
   replace S := Lib.hid S
   obtain ⟨r, hr⟩ : ∃ r, r = H.sameF 30 z x := ⟨_, rfl⟩
   have HS := Lib.hid hr
   clear hr
   match r, HS with
   | some false, HS =>
    have KS : QuietC w bA 27 #[hpV h, agV z, agV x] (.tuple #[.bool false, excZ]) := Lib.hid fun W Q T => by
     rw [HBS.out] at T ⊢
     exact (by have hh := sameOp_ok G hN (Q.length + 2 + i) T (atI2 hi) z x; rw [← HS.out] at hh; exact hh)
    go_upto_region 7 with fail
    refine regionL (E := [emptyR, boxV qz92 z, valsR (.slice (some ⟨g, og, none⟩) Y1.length c1) Y1, boxE (b + 1 + 1)]) (base := bA) (Sep.putE S.out) ?_
    clear S
    refine qa ?_
    refine qd _ [emptyR, boxV qz92 z, valsR (.slice (some ⟨g, og, none⟩) Y1.length c1) Y1, boxE (b + 1 + 1)] (h1 := fun Wx hSw => by (have hz := hSw.box (b := qz92) (o := objV z) 1 rfl; have z0 := cellAt hz 0 (v := .int .i64 z.kind) rfl; have z1 := cellAt hz 1 (v := .int .i64 z.n) rfl; have z2 := cellAt hz 2 (v := .string z.s) rfl; go_simp; exact ⟨rfl, hSw⟩)) (h2 := ?_)
    refine qc C0 ?_
    refine qk KS ?_
    iterate 3 refine qa ?_
    refine allocL 0 rfl (fun q => .pointer (some ⟨q, 0, none⟩)) (.cells #[.string ⟨#[]⟩, .int .i64 0, .int .i64 0, .string ⟨#[]⟩, .bool false] 33) (h1 := fun Wx => by go_simp) (h2 := fun qe112 => ?_); simp only [Act.put, pa]; try dsimp only [List.set]
    try simp only [List.set_cons_zero, List.set_cons_succ]
    refine qa ?_
    refine qd undef [boxE qe112, boxV qz92 z, valsR (.slice (some ⟨g, og, none⟩) Y1.length c1) Y1, boxE (b + 1 + 1)] (h1 := fun Wx hSw => by (have hz := hSw.box (b := qe112) (o := objE) 0 rfl; refine useZ5 hz fun z0 z1 z2 z3 z4 y0 y1 y2 y3 y4 => ?_; go_simp; exact ⟨rfl, hSw.set5 0 rfl (.string ⟨#[]⟩) (.int .i64 0) (.int .i64 0) (.string ⟨#[]⟩) (.bool false)⟩)) (h2 := ?_)
    intro w5 S
    replace S := Lib.hid S
    go_upto_region 8 with fail
    refine regionL (E := [boxE qe112, boxV qz92 z, valsR (.slice (some ⟨g, og, none⟩) Y1.length c1) Y1, boxE (b + 1 + 1)]) (base := bA) S.out ?_
    clear S
    iterate 3 refine qa ?_
    refine qd _ [boxE qe112, boxV qz92 z, valsR (.slice (some ⟨g, og, none⟩) Y1.length c1) Y1, boxE (b + 1 + 1)] (h1 := fun Wx hSw => by (have hz := hSw.box (b := qe112) (o := objE) 0 rfl; have z0 := cellAt hz 0 (v := .string ⟨#[]⟩) rfl; have z1 := cellAt hz 1 (v := .int .i64 0) rfl; have z2 := cellAt hz 2 (v := .int .i64 0) rfl; have z3 := cellAt hz 3 (v := .string ⟨#[]⟩) rfl; have z4 := cellAt hz 4 (v := .bool false) rfl; go_simp; exact ⟨rfl, hSw⟩)) (h2 := ?_)
    iterate 2 refine qa ?_
    intro w6 S
    replace S := Lib.hid S
    have hi1 : IntKind.i64.wrap ((k : Int) + 1) = (k : Int) + 1 := IntWalk.i64_in _ (by omega)
    replace S := Lib.hid S.out.tail.tail
    go_wp2
    exact ⟨⟨k + 1, HLT.out, by go_num, Lib.hid (take_snoc HZ.out HA.out HS.out.symm), S.out⟩, by have := HLT.out; simp [intOf]; omega⟩
   | some true, HS =>
    have KS : QuietC w bA 27 #[hpV h, agV z, agV x] (.tuple #[.bool true, excZ]) := Lib.hid fun W Q T => by
     rw [HBS.out] at T ⊢
     exact (by have hh := sameOp_ok G hN (Q.length + 2 + i) T (atI2 hi) z x; rw [← HS.out] at hh; exact hh)
    go_upto_region 7 with fail
    refine regionL (E := [emptyR, boxV qz92 z, valsR (.slice (some ⟨g, og, none⟩) Y1.length c1) Y1, boxE (b + 1 + 1)]) (base := bA) (Sep.putE S.out) ?_
    clear S
    refine qa ?_
    refine qd _ [emptyR, boxV qz92 z, valsR (.slice (some ⟨g, og, none⟩) Y1.length c1) Y1, boxE (b + 1 + 1)] (h1 := fun Wx hSw => by (have hz := hSw.box (b := qz92) (o := objV z) 1 rfl; have z0 := cellAt hz 0 (v := .int .i64 z.kind) rfl; have z1 := cellAt hz 1 (v := .int .i64 z.n) rfl; have z2 := cellAt hz 2 (v := .string z.s) rfl; go_simp; exact ⟨rfl, hSw⟩)) (h2 := ?_)
    refine qc C0 ?_
    refine qk KS ?_
    iterate 3 refine qa ?_
    refine allocL 0 rfl (fun q => .pointer (some ⟨q, 0, none⟩)) (.cells #[.string ⟨#[]⟩, .int .i64 0, .int .i64 0, .string ⟨#[]⟩, .bool false] 33) (h1 := fun Wx => by go_simp) (h2 := fun qe112 => ?_); simp only [Act.put, pa]; try dsimp only [List.set]
    try simp only [List.set_cons_zero, List.set_cons_succ]
    refine qa ?_
    refine qd undef [boxE qe112, boxV qz92 z, valsR (.slice (some ⟨g, og, none⟩) Y1.length c1) Y1, boxE (b + 1 + 1)] (h1 := fun Wx hSw => by (have hz := hSw.box (b := qe112) (o := objE) 0 rfl; refine useZ5 hz fun z0 z1 z2 z3 z4 y0 y1 y2 y3 y4 => ?_; go_simp; exact ⟨rfl, hSw.set5 0 rfl (.string ⟨#[]⟩) (.int .i64 0) (.int .i64 0) (.string ⟨#[]⟩) (.bool false)⟩)) (h2 := ?_)
    intro w7 S
    replace S := Lib.hid S
    go_upto_region 8 with fail
    refine regionL (E := [boxE qe112, boxV qz92 z, valsR (.slice (some ⟨g, og, none⟩) Y1.length c1) Y1, boxE (b + 1 + 1)]) (base := bA) S.out ?_
    clear S
    iterate 2 refine qa ?_
    iterate 3 refine qz ?_
    refine qa ?_
    intro w8 S
    replace S := Lib.hid S
    have hv : rr = some true := by rw [HRR.out, HS.out]; exact inL_stop HZ.out HA.out (by rw [← HS.out]; simp)
    subst hv
    go_upto_region 9 with fail
    refine regionP 1 3 (E := [boxE qe112, boxV qz92 z, valsR (.slice (some ⟨g, og, none⟩) Y1.length c1) Y1, boxE (b + 1 + 1)]) (base := bA) S.out ?_
    clear S
    refine qp ?_
    refine endP ?_
    refine qs 2 ?_
    refine readyS [1] ?_
    refine detS _ [boxE qe112, boxV qz92 z, valsR (.slice (some ⟨g, og, none⟩) Y1.length c1) Y1, boxE (b + 1 + 1)] (h1 := fun Wx hSw => by (have hz := hSw.box (b := qe112) (o := objE) 0 rfl; have z0 := cellAt hz 0 (v := .string ⟨#[]⟩) rfl; have z1 := cellAt hz 1 (v := .int .i64 0) rfl; have z2 := cellAt hz 2 (v := .int .i64 0) rfl; have z3 := cellAt hz 3 (v := .string ⟨#[]⟩) rfl; have z4 := cellAt hz 4 (v := .bool false) rfl; go_simp; exact ⟨rfl, hSw⟩)) (h2 := ?_) (hs := nilS); simp only [Act.put, pa]; try dsimp only [List.set]
    refine readyS [3] ?_
    refine detS undef [boxE qe112, boxV qz92 z, valsR (.slice (some ⟨g, og, none⟩) Y1.length c1) Y1, boxE (b + 1 + 1)] (h1 := fun Wx hSw => by (have hz := hSw.box (b := (b + 1 + 1)) (o := objE) 3 rfl; refine useZ5 hz fun z0 z1 z2 z3 z4 y0 y1 y2 y3 y4 => ?_; go_simp; exact ⟨rfl, hSw.set5 3 rfl (.string ⟨#[]⟩) (.int .i64 0) (.int .i64 0) (.string ⟨#[]⟩) (.bool false)⟩)) (h2 := ?_) (hs := nilS); simp only [Act.put, pa]; try dsimp only [List.set]
    refine doneS (h := fun w9 S => ?_)
    refine useR5 (S.box (b := b + 1 + 1) (o := objE) 3 rfl) fun r0 r1 r2 r3 r4 => ?_
    replace S := Lib.hid S
    repeat (first | go_values | go_skip | go_guarded | go_step)
    refine bodyPost_ret (v := .tuple #[.bool true, excZ]) ?_ ?_ ?_
    ·
     simp [results, Tryz.results115, go_sem, r0, r1, r2, r3, r4]
    ·
     rfl
    refine ⟨rfl, ?_⟩
    replace S := S.out
    rw [HBS.out] at S
    exact S.tail.tail.tail.tail.tail.tail
   | none, HS =>
    have KS : QuietC w bA 27 #[hpV h, agV z, agV x] (.tuple #[.bool false, excN recursionError]) := Lib.hid fun W Q T => by
     rw [HBS.out] at T ⊢
     exact (by have hh := sameOp_ok G hN (Q.length + 2 + i) T (atI2 hi) z x; rw [← HS.out] at hh; exact hh)
    go_upto_region 7 with fail
    refine regionL (E := [emptyR, boxV qz92 z, valsR (.slice (some ⟨g, og, none⟩) Y1.length c1) Y1, boxE (b + 1 + 1)]) (base := bA) (Sep.putE S.out) ?_
    clear S
    refine qa ?_
    refine qd _ [emptyR, boxV qz92 z, valsR (.slice (some ⟨g, og, none⟩) Y1.length c1) Y1, boxE (b + 1 + 1)] (h1 := fun Wx hSw => by (have hz := hSw.box (b := qz92) (o := objV z) 1 rfl; have z0 := cellAt hz 0 (v := .int .i64 z.kind) rfl; have z1 := cellAt hz 1 (v := .int .i64 z.n) rfl; have z2 := cellAt hz 2 (v := .string z.s) rfl; go_simp; exact ⟨rfl, hSw⟩)) (h2 := ?_)
    refine qc C0 ?_
    refine qk KS ?_
    iterate 3 refine qa ?_
    refine allocL 0 rfl (fun q => .pointer (some ⟨q, 0, none⟩)) (.cells #[.string ⟨#[]⟩, .int .i64 0, .int .i64 0, .string ⟨#[]⟩, .bool false] 33) (h1 := fun Wx => by go_simp) (h2 := fun qe112 => ?_); simp only [Act.put, pa]; try dsimp only [List.set]
    try simp only [List.set_cons_zero, List.set_cons_succ]
    refine qa ?_
    refine qd undef [boxN qe112 recursionError, boxV qz92 z, valsR (.slice (some ⟨g, og, none⟩) Y1.length c1) Y1, boxE (b + 1 + 1)] (h1 := fun Wx hSw => by (have hz := hSw.box (b := qe112) (o := objE) 0 rfl; refine useZ5 hz fun z0 z1 z2 z3 z4 y0 y1 y2 y3 y4 => ?_; go_simp; exact ⟨rfl, hSw.set5 0 rfl (.string recursionError) (.int .i64 0) (.int .i64 0) (.string ⟨#[]⟩) (.bool false)⟩)) (h2 := ?_)
    intro w10 S
    replace S := Lib.hid S
    go_upto_region 8 with fail
    refine regionL (E := [boxN qe112 recursionError, boxV qz92 z, valsR (.slice (some ⟨g, og, none⟩) Y1.length c1) Y1, boxE (b + 1 + 1)]) (base := bA) S.out ?_
    clear S
    iterate 3 refine qa ?_
    refine qd _ [boxN qe112 recursionError, boxV qz92 z, valsR (.slice (some ⟨g, og, none⟩) Y1.length c1) Y1, boxE (b + 1 + 1)] (h1 := fun Wx hSw => by (have hz := hSw.box (b := qe112) (o := objN recursionError) 0 rfl; have z0 := cellAt hz 0 (v := .string recursionError) rfl; have z1 := cellAt hz 1 (v := .int .i64 0) rfl; have z2 := cellAt hz 2 (v := .int .i64 0) rfl; have z3 := cellAt hz 3 (v := .string ⟨#[]⟩) rfl; have z4 := cellAt hz 4 (v := .bool false) rfl; go_simp; exact ⟨rfl, hSw⟩)) (h2 := ?_)
    iterate 2 refine qa ?_
    intro w11 S
    replace S := Lib.hid S
    have hv : rr = none := by rw [HRR.out, HS.out]; exact inL_stop HZ.out HA.out (by rw [← HS.out]; simp)
    subst hv
    go_upto_region 9 with fail
    refine regionP 1 3 (E := [boxN qe112 recursionError, boxV qz92 z, valsR (.slice (some ⟨g, og, none⟩) Y1.length c1) Y1, boxE (b + 1 + 1)]) (base := bA) S.out ?_
    clear S
    refine qp ?_
    refine endP ?_
    refine qs 2 ?_
    refine readyS [1] ?_
    refine detS _ [boxN qe112 recursionError, boxV qz92 z, valsR (.slice (some ⟨g, og, none⟩) Y1.length c1) Y1, boxE (b + 1 + 1)] (h1 := fun Wx hSw => by (have hz := hSw.box (b := qe112) (o := objN recursionError) 0 rfl; have z0 := cellAt hz 0 (v := .string recursionError) rfl; have z1 := cellAt hz 1 (v := .int .i64 0) rfl; have z2 := cellAt hz 2 (v := .int .i64 0) rfl; have z3 := cellAt hz 3 (v := .string ⟨#[]⟩) rfl; have z4 := cellAt hz 4 (v := .bool false) rfl; go_simp; exact ⟨rfl, hSw⟩)) (h2 := ?_) (hs := nilS); simp only [Act.put, pa]; try dsimp only [List.set]
    refine readyS [3] ?_
    refine detS undef [boxN qe112 recursionError, boxV qz92 z, valsR (.slice (some ⟨g, og, none⟩) Y1.length c1) Y1, boxN (b + 1 + 1) recursionError] (h1 := fun Wx hSw => by (have hz := hSw.box (b := (b + 1 + 1)) (o := objE) 3 rfl; refine useZ5 hz fun z0 z1 z2 z3 z4 y0 y1 y2 y3 y4 => ?_; go_simp; exact ⟨rfl, hSw.set5 3 rfl (.string recursionError) (.int .i64 0) (.int .i64 0) (.string ⟨#[]⟩) (.bool false)⟩)) (h2 := ?_) (hs := nilS); simp only [Act.put, pa]; try dsimp only [List.set]
    refine doneS (h := fun w12 S => ?_)
    refine useR5 (S.box (b := b + 1 + 1) (o := objN recursionError) 3 rfl) fun r0 r1 r2 r3 r4 => ?_
    replace S := Lib.hid S
    repeat (first | go_values | go_skip | go_guarded | go_step)
    refine bodyPost_ret (v := .tuple #[.bool false, excN recursionError]) ?_ ?_ ?_
    ·
     simp [results, Tryz.results115, go_sem, r0, r1, r2, r3, r4]
    ·
     rfl
    refine ⟨rfl, ?_⟩
    replace S := S.out
    rw [HBS.out] at S
    exact S.tail.tail.tail.tail.tail.tail
  ·
   obtain rfl : k = Y1.length := by omega
   have hno : ¬ ((Y1.length : Int) < Y1.length) := by omega
   have hv : rr = some false := by rw [HRR.out]; exact inL_all (by have := HA.out; rwa [List.take_length] at this)
   subst hv
   clear hlt hk HA
   go_upto_region 11 with fail
   refine regionL (E := [valsR (.slice a1 Y1.length c1) Y1, boxE (b + 1 + 1)]) (base := bA) S.out ?_
   clear S
   iterate 2 refine qa ?_
   refine qd undef [valsR (.slice a1 Y1.length c1) Y1, boxE (b + 1 + 1)] (h1 := fun Wx hSw => by (have hz := hSw.box (b := (b + 1 + 1)) (o := objE) 1 rfl; refine useZ5 hz fun z0 z1 z2 z3 z4 y0 y1 y2 y3 y4 => ?_; go_simp; exact ⟨rfl, hSw.set5 1 rfl (.string ⟨#[]⟩) (.int .i64 0) (.int .i64 0) (.string ⟨#[]⟩) (.bool false)⟩)) (h2 := ?_)
   intro w13 S
   refine useR5 (S.box (b := b + 1 + 1) (o := objE) 1 rfl) fun r0 r1 r2 r3 r4 => ?_
   replace S := Lib.hid S
   repeat (first | go_values | go_skip | go_guarded | go_step)
   refine bodyPost_ret (v := .tuple #[.bool false, excZ]) ?_ ?_ ?_
   ·
    simp [results, Tryz.results115, go_sem, r0, r1, r2, r3, r4]
   ·
    rfl
   refine ⟨rfl, ?_⟩
   replace S := S.out
   rw [HBS.out] at S
   exact S.tail.tail.tail.tail
theorem in_str (S : Sep w Rs W) (x y : V) (hx : x.kind = 3) (hy : y.kind = 3) (hsz : y.s.size < 4294967281) (m : Int) (hm : w.cell? ⟨0, 0, none⟩ = some (.int .i64 m)) : Calls Tryz.prog 115 #[.pointer (some ⟨h, 0, none⟩), .agg #[.int .i64 x.kind, .int .i64 x.n, .string x.s], .agg #[.int .i64 y.kind, .int .i64 y.n, .string y.s]] W fun e W' => e = .returned (.tuple #[.bool (decide (0 ≤ Lib.index y.s.data.toList x.s.data.toList)), excZ]) ∧ Sep w Rs W' := by
 have e1 : (x.kind == 3) = true := by simp [hx]
 have e2 : (y.kind == 3) = true := by simp [hy]
 obtain ⟨n, hn⟩ : ∃ n, n = Lib.index y.s.data.toList x.s.data.toList := ⟨_, rfl⟩
 rw [← hn]
 have HN := Lib.hid hn
 have HM := Lib.hid hm
 have HZ := Lib.hid hsz
 clear hn hm hsz hx hy
 obtain ⟨b, hb⟩ : ∃ gx_, (W.heap.size) = gx_ := ⟨_, rfl⟩
 replace S := (((S.alloc (.cells #[.int .i64 x.kind, .int .i64 x.n, .string x.s] 24)).alloc (.cells #[.int .i64 y.kind, .int .i64 y.n, .string y.s] 24)).alloc (.cells #[.string ⟨#[]⟩, .int .i64 0, .int .i64 0, .string ⟨#[]⟩, .bool false] 33))
 simp only [World.size_alloc, hb] at S
 obtain ⟨bA, hbs⟩ : ∃ l, l = boxV (b + 1) y :: boxV b x :: Rs := ⟨_, rfl⟩
 have HBS := Lib.hid hbs
 replace S := enterP (w := w) (all := [boxE (b + 1 + 1), boxV (b + 1) y, boxV b x]) (E := [boxE (b + 1 + 1)]) (B := [boxV (b + 1) y, boxV b x]) (Rs := Rs) S hbs (perm_of [0, 1, 2] (by show (List.range' 0 3).Perm [0, 1, 2]; decide) (by rfl))
 have C1 := baseC3 (w := w) (b := b + 1) hbs 0 rfl
 have C0 := baseC3 (w := w) (b := b) hbs 1 rfl
 clear hbs
 replace S := Lib.hid S
 go_enter Tryz.func115, Tryz.ntmps115
 go_upto_region 1 with fail
 try simp only [World.size_alloc, hb]
 clear hb
 refine regionL (E := [boxE (b + 1 + 1)]) (base := bA) S.out ?_
 clear S
 refine qa ?_
 refine qc C0 ?_
 iterate 3 refine qa ?_
 refine qc C1 ?_
 iterate 3 refine qa ?_
 intro w1 S
 replace S := Lib.hid S
 clear e1 e2
 have KF : QuietC w bA 159 #[.string y.s, .string x.s] (.int .i64 n) := Lib.hid fun W Q T => by
  have hh := find_i y.s x.s m W HZ.out (cellBelow HM.out T.below)
  rw [← HN.out] at hh
  exact hh.mono fun e W' ⟨e1, e2⟩ => ⟨e1, by rw [← e2]; exact T⟩
 go_upto_region 2 with fail
 refine regionL (E := [boxE (b + 1 + 1)]) (base := bA) S.out ?_
 clear S
 refine qa ?_
 refine qc C1 ?_
 refine qa ?_
 refine qc C0 ?_
 refine qk KF ?_
 iterate 3 refine qa ?_
 refine qd undef [boxE (b + 1 + 1)] (h1 := fun Wx hSw => by (have hz := hSw.box (b := (b + 1 + 1)) (o := objE) 0 rfl; refine useZ5 hz fun z0 z1 z2 z3 z4 y0 y1 y2 y3 y4 => ?_; go_simp; exact ⟨rfl, hSw.set5 0 rfl (.string ⟨#[]⟩) (.int .i64 0) (.int .i64 0) (.string ⟨#[]⟩) (.bool false)⟩)) (h2 := ?_)
 intro w2 S
 refine useR5 (S.box (b := b + 1 + 1) (o := objE) 0 rfl) fun r0 r1 r2 r3 r4 => ?_
 replace S := Lib.hid S
 repeat (first | go_values | go_skip | go_guarded | go_step)
 refine bodyPost_ret (v := .tuple #[.bool (decide (0 ≤ n)), excZ]) ?_ ?_ ?_
 ·
  simp [results, Tryz.results115, go_sem, r0, r1, r2, r3, r4]
 ·
  rfl
 refine ⟨rfl, ?_⟩
 replace S := S.out
 rw [HBS.out] at S
 exact S.tail.tail.tail
theorem in_ws (S : Sep w Rs W) (i : Nat) (hi : Rs[i]? = some (heapR h H)) (x y : V) (hs : ¬ x.kind = 3) (hr : H.rowB y = false) (hd : ¬ H.kind y = 3) : Calls Tryz.prog 115 #[.pointer (some ⟨h, 0, none⟩), .agg #[.int .i64 x.kind, .int .i64 x.n, .string x.s], .agg #[.int .i64 y.kind, .int .i64 y.n, .string y.s]] W fun e W' => e = .returned (.tuple #[.bool false, excN typeError]) ∧ Sep w Rs W' := by
 have e1 : (x.kind == 3) = false := by simpa using hs
 obtain ⟨ky, hK⟩ : ∃ k, H.kind y = k := ⟨_, rfl⟩
 have e3 : (ky == 3) = false := by rw [← hK]; simpa using hd
 have HK := Lib.hid hK
 have HR := Lib.hid hr
 clear hs hK hr hd
 obtain ⟨b, hb⟩ : ∃ gx_, (W.heap.size) = gx_ := ⟨_, rfl⟩
 replace S := (((S.alloc (.cells #[.int .i64 x.kind, .int .i64 x.n, .string x.s] 24)).alloc (.cells #[.int .i64 y.kind, .int .i64 y.n, .string y.s] 24)).alloc (.cells #[.string ⟨#[]⟩, .int .i64 0, .int .i64 0, .string ⟨#[]⟩, .bool false] 33))
 simp only [World.size_alloc, hb] at S
 obtain ⟨bA, hbs⟩ : ∃ l, l = boxV (b + 1) y :: boxV b x :: Rs := ⟨_, rfl⟩
 have HBS := Lib.hid hbs
 replace S := enterP (w := w) (all := [boxE (b + 1 + 1), boxV (b + 1) y, boxV b x]) (E := [boxE (b + 1 + 1)]) (B := [boxV (b + 1) y, boxV b x]) (Rs := Rs) S hbs (perm_of [0, 1, 2] (by show (List.range' 0 3).Perm [0, 1, 2]; decide) (by rfl))
 have C1 := baseC3 (w := w) (b := b + 1) hbs 0 rfl
 have C0 := baseC3 (w := w) (b := b) hbs 1 rfl
 clear hbs
 replace S := Lib.hid S
 go_enter Tryz.func115, Tryz.ntmps115
 go_upto_region 1 with fail
 try simp only [World.size_alloc, hb]
 clear hb
 refine regionL (E := [boxE (b + 1 + 1)]) (base := bA) S.out ?_
 clear S
 refine qa ?_
 refine qc C0 ?_
 iterate 2 refine qa ?_
 iterate 3 refine qz ?_
 iterate 2 refine qa ?_
 intro w1 S
 replace S := Lib.hid S
 have KR : QuietC w bA 84 #[hpV h, agV y] (.bool false) := Lib.hid fun W Q T => by
  rw [HBS.out] at T ⊢
  exact row_ok T (Q.length + 2 + i) (atI2 hi) y _ HR.out
 go_upto_region 3 with fail
 refine regionL (E := [boxE (b + 1 + 1)]) (base := bA) S.out ?_
 clear S
 refine qa ?_
 refine qc C1 ?_
 refine qk KR ?_
 refine qa ?_
 intro w2 S
 replace S := Lib.hid S
 have KK : QuietC w bA 72 #[hpV h, agV y] (.int .i64 ky) := Lib.hid fun W Q T => by
  rw [HBS.out] at T ⊢
  exact kind_at T (Q.length + 2 + i) (atI2 hi) y ky HK.out
 go_upto_region 12 with fail
 refine regionL (E := [boxE (b + 1 + 1)]) (base := bA) S.out ?_
 clear S
 refine qa ?_
 refine qc C1 ?_
 refine qk KK ?_
 iterate 2 refine qa ?_
 iterate 2 refine qz ?_
 iterate 2 refine qa ?_
 intro w3 S
 replace S := Lib.hid S
 have KQ : QuietC w bA 87 #[.string typeError] (excN typeError) := Lib.hid fun W Q T => by
  exact (raise_ok W _).mono fun e W' ⟨e1, e2⟩ => ⟨e1, T.later e2⟩
 go_upto_region 15 with fail
 refine regionL (E := [boxE (b + 1 + 1)]) (base := bA) S.out ?_
 clear S
 refine qk KQ ?_
 refine qa ?_
 refine qd undef [boxN (b + 1 + 1) typeError] (h1 := fun Wx hSw => by (have hz := hSw.box (b := (b + 1 + 1)) (o := objE) 0 rfl; refine useZ5 hz fun z0 z1 z2 z3 z4 y0 y1 y2 y3 y4 => ?_; go_simp; exact ⟨rfl, hSw.set5 0 rfl (.string typeError) (.int .i64 0) (.int .i64 0) (.string ⟨#[]⟩) (.bool false)⟩)) (h2 := ?_)
 intro w4 S
 refine useR5 (S.box (b := b + 1 + 1) (o := objN typeError) 0 rfl) fun r0 r1 r2 r3 r4 => ?_
 replace S := Lib.hid S
 repeat (first | go_values | go_skip | go_guarded | go_step)
 refine bodyPost_ret (v := .tuple #[.bool false, excN typeError]) ?_ ?_ ?_
 ·
  simp [results, Tryz.results115, go_sem, r0, r1, r2, r3, r4]
 ·
  rfl
 refine ⟨rfl, ?_⟩
 replace S := S.out
 rw [HBS.out] at S
 exact S.tail.tail.tail
/-- What in tells. -/
def HeapM.inC (H : HeapM) (x y : V) : CmpRes :=
 if x.kind = 3 ∧ y.kind = 3 then .ok (decide (0 ≤ Lib.index y.s.data.toList x.s.data.toList))
 else if H.rowB y = true then sameC (H.inL x (H.items y))
 else if H.kind y = 3 ∧ x.isKey = true then .ok (H.get y x).isSome
 else .type
theorem in_any {N : Nat} (G : H.Good N) (hN : N ≤ 4000000) (x y : V) (hsz : y.s.size < 4294967281) (m : Int) (hm : w.cell? ⟨0, 0, none⟩ = some (.int .i64 m)) {Rs : List Res} {W : World} (i : Nat) (S : Sep w Rs W) (hi : Rs[i]? = some (heapR h H)) : Calls Tryz.prog 115 #[.pointer (some ⟨h, 0, none⟩), .agg #[.int .i64 x.kind, .int .i64 x.n, .string x.s], .agg #[.int .i64 y.kind, .int .i64 y.n, .string y.s]] W fun e W' => e = .returned (H.inC x y).val ∧ Sep w Rs W' := by
 unfold HeapM.inC
 by_cases h1 : x.kind = 3 ∧ y.kind = 3
 ·
  rw [if_pos h1]; exact in_str S x y h1.1 h1.2 hsz m hm
 ·
  rw [if_neg h1]
  by_cases h2 : H.rowB y = true
  ·
   rw [if_pos h2]
   by_cases hx : x.kind = 3
   ·
    exact in_rows S i hi G hN x y hx h2
   ·
    exact in_row S i hi G hN x y hx h2
  ·
   have h2' : H.rowB y = false := by simpa using h2
   rw [if_neg h2]
   by_cases h3 : H.kind y = 3
   ·
    have hy4 := H.kind_ref y (by omega)
    have hy : ¬ y.kind = 3 := by omega
    by_cases h4 : x.isKey = true
    ·
     rw [if_pos ⟨h3, h4⟩]
     cases hg : H.get y x with
     | some v =>
      by_cases hx : x.kind = 3
      ·
       exact in_dicts S i hi x y v hx hy h2' h3 h4 hg
      ·
       exact in_dict S i hi x y v hx hy h2' h3 h4 hg
     | none =>
      by_cases hx : x.kind = 3
      ·
       exact in_dict_nos S i hi x y hx hy h2' h3 h4 hg
      ·
       exact in_dict_no S i hi x y hx hy h2' h3 h4 hg
    ·
     have h4' : x.isKey = false := by simpa using h4
     rw [if_neg (fun e => h4 e.2)]
     by_cases hx : x.kind = 3
     ·
      exact in_w2s S i hi x y hx hy h2' h3 h4'
     ·
      exact in_w2 S i hi x y hx hy h2' h3 h4'
   ·
    rw [if_neg (fun e => h3 e.1)]
    by_cases hx : x.kind = 3
    ·
     exact in_w3s S i hi x y hx (fun e => h1 ⟨hx, e⟩) h2' h3
    ·
     exact in_ws S i hi x y hx h2' h3
theorem cmp_isin {N : Nat} (G : H.Good N) (hN : N ≤ 4000000) (x y : V) (hsz : y.s.size < 4294967281) (m : Int) (hm : w.cell? ⟨0, 0, none⟩ = some (.int .i64 m)) (S : Sep w Rs W) (i : Nat) (hi : Rs[i]? = some (heapR h H)) : Calls Tryz.prog 25 #[.pointer (some ⟨h, 0, none⟩), .string ⟨#[105, 110]⟩, .agg #[.int .i64 x.kind, .int .i64 x.n, .string x.s], .agg #[.int .i64 y.kind, .int .i64 y.n, .string y.s]] W fun e W' => e = .returned (cmpV (H.inC x y) false) ∧ Sep w Rs W' :=
 cmp_in S i hi _ (by decide) false x y (H.inC x y) (fun m => rfl) (fun j S' hj => in_any G hN x y hsz m hm j S' hj)
theorem cmp_notin {N : Nat} (G : H.Good N) (hN : N ≤ 4000000) (x y : V) (hsz : y.s.size < 4294967281) (m : Int) (hm : w.cell? ⟨0, 0, none⟩ = some (.int .i64 m)) (S : Sep w Rs W) (i : Nat) (hi : Rs[i]? = some (heapR h H)) : Calls Tryz.prog 25 #[.pointer (some ⟨h, 0, none⟩), .string ⟨#[110, 111, 116, 32, 105, 110]⟩, .agg #[.int .i64 x.kind, .int .i64 x.n, .string x.s], .agg #[.int .i64 y.kind, .int .i64 y.n, .string y.s]] W fun e W' => e = .returned (cmpV (H.inC x y) true) ∧ Sep w Rs W' :=
 cmp_in S i hi _ (by decide) true x y (H.inC x y) (fun m => rfl) (fun j S' hj => in_any G hN x y hsz m hm j S' hj)
end
end Go.Proofs.YtijlebhoapdfnaaGreat
