/- ch 16: the reference's Cmp. -/
import Derived.Test.YtijlebhoapdfnaaGreatRCmp
import Derived.Test.YtijlebhoapdfnaaGreatCmpM
set_option maxRecDepth 100000
set_option maxHeartbeats 12800000
namespace Go.Proofs.YtijlebhoapdfnaaGreat
set_option linter.unusedSimpArgs false
open Go.RowKit
set_option linter.unusedVariables false
attribute [local irreducible] wpSeqS wpAnyS wpPreS
section
variable {w W : World} {Rs : List Res} {h : Nat} {H : HeapM}
theorem ryes_ok (W : World) (b : Bool) : Calls Tryz.prog 121 #[.bool b] W fun e W' => e = .returned (yesV b) ∧ Below W.heap.size W W' := by
 cases b
 ·
  go_enter Tryz.func121, Tryz.ntmps121
  go_wp2
  exact bodyPost_ret (v := yesV false) (by simp [results, Tryz.results121, go_sem]) rfl ⟨rfl, by exact belowA⟩
 ·
  go_enter Tryz.func121, Tryz.ntmps121
  go_wp2
  exact bodyPost_ret (v := yesV true) (by simp [results, Tryz.results121, go_sem]) rfl ⟨rfl, by exact belowA⟩
theorem rin_any (S : Sep w Rs W) (i : Nat) (hi : Rs[i]? = some (refR h H)) {N : Nat} (G : H.Good N) (hN : N ≤ 4000000) (x y : V) (hsz : y.s.size ≤ 9223372036854775806) : Calls Tryz.prog 119 #[.pointer (some ⟨h, 0, none⟩), .agg #[.int .i64 x.kind, .int .i64 x.n, .string x.s], .agg #[.int .i64 y.kind, .int .i64 y.n, .string y.s]] W fun e W' => e = .returned (H.inC x y).val ∧ Sep w Rs W' := by
 unfold HeapM.inC
 by_cases h1 : x.kind = 3 ∧ y.kind = 3
 ·
  rw [if_pos h1]; exact rin_str S i hi x y h1.1 h1.2 ⟨hsz, x.hs⟩
 ·
  rw [if_neg h1]
  by_cases h2 : H.rowB y = true
  ·
   rw [if_pos h2, sameC_val, sameV_nm]; exact rin_row S i hi G hN x y h1 h2
  ·
   have h2' : H.rowB y = false := by simpa using h2
   rw [if_neg h2]
   by_cases h3 : H.kind y = 3 ∧ x.isKey = true
   ·
    rw [if_pos h3]; exact rin_dict S i hi x y h1 h2' h3
   ·
    rw [if_neg h3]; exact rin_no S i hi x y h1 h2' h3
theorem rcmp_ok (S : Sep w Rs W) (i : Nat) (hi : Rs[i]? = some (refR h H)) {N : Nat} (G : H.Good N) (hN : N ≤ 4000000) (op : ByteArray) (x y : V) (hsz : y.s.size ≤ 9223372036854775806) : Calls Tryz.prog 26 #[.pointer (some ⟨h, 0, none⟩), .string op, .agg #[.int .i64 x.kind, .int .i64 x.n, .string x.s], .agg #[.int .i64 y.kind, .int .i64 y.n, .string y.s]] W fun e W' => e = .returned (cmpV (H.cmpR op x y) (ntB op)) ∧ Sep w Rs W' := by
 obtain ⟨q, hq⟩ : ∃ q, H.cmpR op x y = q := ⟨_, rfl⟩
 obtain ⟨nt, hnt⟩ : ∃ n, ntB op = n := ⟨_, rfl⟩
 rw [hq, hnt]
 have HQ := Lib.hid hq
 have HNT := Lib.hid hnt
 have HSZ := Lib.hid hsz
 clear hq hnt hsz
 obtain ⟨b, hb⟩ : ∃ gx_, (W.heap.size) = gx_ := ⟨_, rfl⟩
 replace S := ((((S.alloc (.cells #[.int .i64 x.kind, .int .i64 x.n, .string x.s] 24)).alloc (.cells #[.int .i64 y.kind, .int .i64 y.n, .string y.s] 24)).alloc (.cells #[.int .i64 0, .int .i64 0, .string ⟨#[]⟩] 24)).alloc (.cells #[.string ⟨#[]⟩, .int .i64 0, .int .i64 0, .string ⟨#[]⟩, .bool false] 33))
 simp only [World.size_alloc, hb] at S
 obtain ⟨bA, hbs⟩ : ∃ l, l = boxV (b + 1) y :: boxV b x :: Rs := ⟨_, rfl⟩
 have HBS := Lib.hid hbs
 replace S := enterP (w := w) (all := [boxE (b + 1 + 1 + 1), boxZ (b + 1 + 1), boxV (b + 1) y, boxV b x]) (E := [boxE (b + 1 + 1 + 1), boxZ (b + 1 + 1)]) (B := [boxV (b + 1) y, boxV b x]) (Rs := Rs) S hbs (perm_of [0, 1, 2, 3] (by show (List.range' 0 4).Perm [0, 1, 2, 3]; decide) (by rfl))
 have C1 := baseC3 (w := w) (b := b + 1) hbs 0 rfl
 have C0 := baseC3 (w := w) (b := b) hbs 1 rfl
 clear hbs
 replace S := Lib.hid S
 go_enter Tryz.func26, Tryz.ntmps26
 go_upto_region 2 with fail
 try simp only [World.size_alloc, hb]
 clear hb
 refine regionL (E := [emptyR, boxE (b + 1 + 1 + 1), boxZ (b + 1 + 1)]) (base := bA) (Sep.putE S.out) ?_
 clear S
 refine qa ?_
 refine allocL 0 rfl (fun q => .pointer (some ⟨q, 0, none⟩)) (.cells #[.string ⟨#[]⟩, .int .i64 0, .int .i64 0, .string ⟨#[]⟩, .bool false] 33) (h1 := fun Wx => by go_simp) (h2 := fun qe111 => ?_); simp only [Act.put, pa]; try dsimp only [List.set]
 try simp only [List.set_cons_zero, List.set_cons_succ]
 refine qd undef [boxE qe111, boxE (b + 1 + 1 + 1), boxZ (b + 1 + 1)] (h1 := fun Wx hSw => by (have hz := hSw.box (b := qe111) (o := objE) 0 rfl; refine useZ5 hz fun z0 z1 z2 z3 z4 y0 y1 y2 y3 y4 => ?_; go_simp; exact ⟨rfl, hSw.set5 0 rfl (.string ⟨#[]⟩) (.int .i64 0) (.int .i64 0) (.string ⟨#[]⟩) (.bool false)⟩)) (h2 := ?_)
 refine doneL (h := fun w1 S => ?_)
 replace S := Lib.hid S
 go_upto_region 3 with fail
 go_upto_block 0 with fail
 go_cut [10] (fun s10 wx => ∃ (bb : Bool) (nm : ByteArray), Hid (cmpC bb nm q) ∧ s10 = .bool bb ∧ Sep w ([boxN qe111 nm, boxE (b + 1 + 1 + 1), boxZ (b + 1 + 1)] ++ bA) wx)
 case first =>
  rcases ops_all op with hs | hs | hs | hs | hs
  ·
   as_aux_lemma =>
    obtain ⟨bq, nq, hv, hc⟩ : ∃ (b : Bool) (nm : ByteArray), sameV (H.sameF 30 x y) = .tuple #[.bool b, excN nm] ∧ cmpC b nm q := by
     rw [← HQ.out, cmpR_same hs]
     exact sameV_c _
    have HV := Lib.hid hv
    have HC := Lib.hid hc
    clear hv hc
    have KC : QuietC w bA 28 #[hpV h, agV x, agV y] (.tuple #[.bool bq, excN nq]) := Lib.hid fun W Q T => by
     rw [HBS.out] at T ⊢
     exact (by have hh := rsameOp_ok T (Q.length + 2 + i) (atI2 hi) G hN x y; rw [← sameV_nm, HV.out] at hh; exact hh)
    rcases hs with hop | hop
    ·
     obtain rfl : op = ⟨#[61, 61]⟩ := hop
     go_upto_region 7 with fail
     refine regionL (E := [boxE qe111, boxE (b + 1 + 1 + 1), boxZ (b + 1 + 1)]) (base := bA) S.out ?_
     clear S
     refine qa ?_
     refine qc C0 ?_
     refine qc C1 ?_
     refine qk KC ?_
     iterate 4 refine qa ?_
     refine qd undef [boxN qe111 nq, boxE (b + 1 + 1 + 1), boxZ (b + 1 + 1)] (h1 := fun Wx hSw => by (have hz := hSw.box (b := qe111) (o := objE) 0 rfl; refine useZ5 hz fun z0 z1 z2 z3 z4 y0 y1 y2 y3 y4 => ?_; go_simp; exact ⟨rfl, hSw.set5 0 rfl (.string nq) (.int .i64 0) (.int .i64 0) (.string ⟨#[]⟩) (.bool false)⟩)) (h2 := ?_)
     refine doneL (h := fun w2 S => ?_)
     replace S := Lib.hid S
     go_wp2_with fail
     go_meet
     exact ⟨bq, nq, Lib.hid (HC.out), rfl, S.out⟩
    ·
     obtain rfl : op = ⟨#[33, 61]⟩ := hop
     go_upto_region 7 with fail
     refine regionL (E := [boxE qe111, boxE (b + 1 + 1 + 1), boxZ (b + 1 + 1)]) (base := bA) S.out ?_
     clear S
     refine qa ?_
     refine qc C0 ?_
     refine qc C1 ?_
     refine qk KC ?_
     iterate 4 refine qa ?_
     refine qd undef [boxN qe111 nq, boxE (b + 1 + 1 + 1), boxZ (b + 1 + 1)] (h1 := fun Wx hSw => by (have hz := hSw.box (b := qe111) (o := objE) 0 rfl; refine useZ5 hz fun z0 z1 z2 z3 z4 y0 y1 y2 y3 y4 => ?_; go_simp; exact ⟨rfl, hSw.set5 0 rfl (.string nq) (.int .i64 0) (.int .i64 0) (.string ⟨#[]⟩) (.bool false)⟩)) (h2 := ?_)
     refine doneL (h := fun w3 S => ?_)
     replace S := Lib.hid S
     go_wp2_with fail
     go_meet
     exact ⟨bq, nq, Lib.hid (HC.out), rfl, S.out⟩
  ·
   as_aux_lemma =>
    obtain ⟨bq, hbq⟩ : ∃ b, H.oneB x y = b := ⟨_, rfl⟩
    have HB := Lib.hid hbq
    have HC : Hid (cmpC bq ⟨#[]⟩ q) := Lib.hid (by rw [← HQ.out, cmpR_is hs, hbq]; exact ⟨rfl, rfl⟩)
    clear hbq
    have KC : QuietC w bA 118 #[hpV h, agV x, agV y] (.bool bq) := Lib.hid fun W Q T => by
     rw [HBS.out] at T ⊢
     exact (rone_ok T (Q.length + 2 + i) (atI2 hi) x y bq HB.out)
    rcases hs with hop | hop
    ·
     obtain rfl : op = ⟨#[105, 115]⟩ := hop
     go_upto_region 10 with fail
     refine regionL (E := [boxE qe111, boxE (b + 1 + 1 + 1), boxZ (b + 1 + 1)]) (base := bA) S.out ?_
     clear S
     refine qa ?_
     refine qc C0 ?_
     refine qc C1 ?_
     refine qk KC ?_
     refine qa ?_
     refine doneL (h := fun w4 S => ?_)
     replace S := Lib.hid S
     go_wp2_with fail
     go_meet
     exact ⟨bq, ⟨#[]⟩, Lib.hid (HC.out), rfl, S.out⟩
    ·
     obtain rfl : op = ⟨#[105, 115, 32, 110, 111, 116]⟩ := hop
     go_upto_region 10 with fail
     refine regionL (E := [boxE qe111, boxE (b + 1 + 1 + 1), boxZ (b + 1 + 1)]) (base := bA) S.out ?_
     clear S
     refine qa ?_
     refine qc C0 ?_
     refine qc C1 ?_
     refine qk KC ?_
     refine qa ?_
     refine doneL (h := fun w5 S => ?_)
     replace S := Lib.hid S
     go_wp2_with fail
     go_meet
     exact ⟨bq, ⟨#[]⟩, Lib.hid (HC.out), rfl, S.out⟩
  ·
   as_aux_lemma =>
    obtain ⟨bq, nq, hv, hc⟩ : ∃ (b : Bool) (nm : ByteArray), (H.inC x y).val = .tuple #[.bool b, excN nm] ∧ cmpC b nm q := by
     rw [← HQ.out, cmpR_in hs]
     exact val_c _
    have HV := Lib.hid hv
    have HC := Lib.hid hc
    clear hv hc
    have KC : QuietC w bA 119 #[hpV h, agV x, agV y] (.tuple #[.bool bq, excN nq]) := Lib.hid fun W Q T => by
     rw [HBS.out] at T ⊢
     exact (by have hh := rin_any T (Q.length + 2 + i) (atI2 hi) G hN x y HSZ.out; rw [HV.out] at hh; exact hh)
    rcases hs with hop | hop
    ·
     obtain rfl : op = ⟨#[105, 110]⟩ := hop
     go_upto_region 13 with fail
     refine regionL (E := [boxE qe111, boxE (b + 1 + 1 + 1), boxZ (b + 1 + 1)]) (base := bA) S.out ?_
     clear S
     refine qa ?_
     refine qc C0 ?_
     refine qc C1 ?_
     refine qk KC ?_
     iterate 4 refine qa ?_
     refine qd undef [boxN qe111 nq, boxE (b + 1 + 1 + 1), boxZ (b + 1 + 1)] (h1 := fun Wx hSw => by (have hz := hSw.box (b := qe111) (o := objE) 0 rfl; refine useZ5 hz fun z0 z1 z2 z3 z4 y0 y1 y2 y3 y4 => ?_; go_simp; exact ⟨rfl, hSw.set5 0 rfl (.string nq) (.int .i64 0) (.int .i64 0) (.string ⟨#[]⟩) (.bool false)⟩)) (h2 := ?_)
     refine doneL (h := fun w6 S => ?_)
     replace S := Lib.hid S
     go_wp2_with fail
     go_meet
     exact ⟨bq, nq, Lib.hid (HC.out), rfl, S.out⟩
    ·
     obtain rfl : op = ⟨#[110, 111, 116, 32, 105, 110]⟩ := hop
     go_upto_region 13 with fail
     refine regionL (E := [boxE qe111, boxE (b + 1 + 1 + 1), boxZ (b + 1 + 1)]) (base := bA) S.out ?_
     clear S
     refine qa ?_
     refine qc C0 ?_
     refine qc C1 ?_
     refine qk KC ?_
     iterate 4 refine qa ?_
     refine qd undef [boxN qe111 nq, boxE (b + 1 + 1 + 1), boxZ (b + 1 + 1)] (h1 := fun Wx hSw => by (have hz := hSw.box (b := qe111) (o := objE) 0 rfl; refine useZ5 hz fun z0 z1 z2 z3 z4 y0 y1 y2 y3 y4 => ?_; go_simp; exact ⟨rfl, hSw.set5 0 rfl (.string nq) (.int .i64 0) (.int .i64 0) (.string ⟨#[]⟩) (.bool false)⟩)) (h2 := ?_)
     refine doneL (h := fun w7 S => ?_)
     replace S := Lib.hid S
     go_wp2_with fail
     go_meet
     exact ⟨bq, nq, Lib.hid (HC.out), rfl, S.out⟩
  ·
   as_aux_lemma =>
    have hn0 : (op.toList == [61, 61]) = false := by rw [ByteArray.toList_eq]; rcases hs with rfl | rfl | rfl | rfl <;> rfl
    have hn1 : (op.toList == [33, 61]) = false := by rw [ByteArray.toList_eq]; rcases hs with rfl | rfl | rfl | rfl <;> rfl
    have hn2 : (op.toList == [105, 115]) = false := by rw [ByteArray.toList_eq]; rcases hs with rfl | rfl | rfl | rfl <;> rfl
    have hn3 : (op.toList == [105, 115, 32, 110, 111, 116]) = false := by rw [ByteArray.toList_eq]; rcases hs with rfl | rfl | rfl | rfl <;> rfl
    have hn4 : (op.toList == [105, 110]) = false := by rw [ByteArray.toList_eq]; rcases hs with rfl | rfl | rfl | rfl <;> rfl
    have hn5 : (op.toList == [110, 111, 116, 32, 105, 110]) = false := by rw [ByteArray.toList_eq]; rcases hs with rfl | rfl | rfl | rfl <;> rfl
    obtain ⟨cs, hcs⟩ : ∃ c, c = cmpL x.s.data.toList y.s.data.toList := ⟨_, rfl⟩
    have HCS := Lib.hid hcs
    clear hcs
    obtain ⟨b45, h45⟩ : ∃ b, b = (op.toList == [60]) := ⟨_, rfl⟩
    have H45 := Lib.hid h45
    clear h45
    go_upto_if 45 with fail
    go_cut [45] (fun s45 wx => s45 = .bool true ∧ Sep w ([boxE qe111, boxE (b + 1 + 1 + 1), boxZ (b + 1 + 1)] ++ bA) wx)
    case first =>
     have t0 : ((⟨#[60]⟩ : ByteArray).toList == [60]) = true := by rw [ByteArray.toList_eq]; rfl
     have t1 : ((⟨#[60, 61]⟩ : ByteArray).toList == [60]) = false := by rw [ByteArray.toList_eq]; rfl
     have t2 : ((⟨#[62]⟩ : ByteArray).toList == [60]) = false := by rw [ByteArray.toList_eq]; rfl
     have t3 : ((⟨#[62, 61]⟩ : ByteArray).toList == [60]) = false := by rw [ByteArray.toList_eq]; rfl
     rcases hs with rfl | rfl | rfl | rfl
     ·
      simp only [t0]; go_wp2_with fail; go_meet; exact ⟨rfl, S.out⟩
     ·
      simp only [t1]; go_wp2_with fail; go_meet; exact ⟨rfl, S.out⟩
     ·
      simp only [t2]; go_wp2_with fail; go_meet; exact ⟨rfl, S.out⟩
     ·
      simp only [t3]; go_wp2_with fail; go_meet; exact ⟨rfl, S.out⟩
    case rest =>
     obtain ⟨rfl, S⟩ := hcut
     replace S := Lib.hid S
     have KP : QuietC w bA 120 #[.string x.s, .string y.s] (.int .i64 cs) := Lib.hid fun W Q T => by
      have hh := ref_compare x.s y.s W x.hs y.hs
      rw [← HCS.out] at hh
      exact hh.mono fun e W' ⟨e1, n, e2⟩ => ⟨e1, by rw [e2]; exact T.drewN n⟩
     go_upto_region 18 with fail
     refine regionL (E := [boxE qe111, boxE (b + 1 + 1 + 1), boxZ (b + 1 + 1)]) (base := bA) S.out ?_
     clear S
     refine qa ?_
     refine qc C0 ?_
     refine qa ?_
     refine qc C1 ?_
     refine qk KP ?_
     refine qa ?_
     refine doneL (h := fun w8 S => ?_)
     replace S := Lib.hid S
     clear KP hn0 hn1 hn2 hn3 hn4 hn5
     obtain ⟨ii, hii⟩ : ∃ b, decide (x.kind = 2 ∧ y.kind = 2) = b := ⟨_, rfl⟩
     have HII := Lib.hid hii
     clear hii
     have HOS := Lib.hid hs
     clear hs
     go_upto_region 19 with fail
     go_cut [62] (fun s62 wx => s62 = .bool ii ∧ Sep w ([boxE qe111, boxE (b + 1 + 1 + 1), boxZ (b + 1 + 1)] ++ bA) wx)
     case first =>
      by_cases h3 : x.kind = 2
      ·
       have e1 : (x.kind == 2) = true := by simp [h3]
       obtain ⟨u, hu⟩ : ∃ b, b = (y.kind == 2) := ⟨_, rfl⟩
       have HU := Lib.hid hu
       obtain rfl : ii = u := by rw [hu, ← HII.out]; simp [h3]; rfl
       clear hu h3
       refine regionL (E := [boxE qe111, boxE (b + 1 + 1 + 1), boxZ (b + 1 + 1)]) (base := bA) S.out ?_
       clear S
       refine qa ?_
       refine qc C0 ?_
       iterate 3 refine qa ?_
       refine qc C1 ?_
       refine qa (v := .bool ii) (hy := fun E Wx hSw => by (go_simp; rw [HU.out]; exact ⟨rfl, hSw⟩)) (h := ?_)
       refine qa ?_
       refine doneL (h := fun w9 S => ?_)
       replace S := Lib.hid S
       go_wp2_with fail
       go_meet
       exact ⟨rfl, S.out⟩
      ·
       have e1 : (x.kind == 2) = false := by simp [h3]
       obtain rfl : ii = false := by rw [← HII.out]; simp [h3]
       clear h3
       refine regionL (E := [boxE qe111, boxE (b + 1 + 1 + 1), boxZ (b + 1 + 1)]) (base := bA) S.out ?_
       clear S
       refine qa ?_
       refine qc C0 ?_
       iterate 2 refine qa ?_
       iterate 3 refine qz ?_
       refine qa ?_
       refine doneL (h := fun w10 S => ?_)
       replace S := Lib.hid S
       go_wp2_with fail
       go_meet
       exact ⟨rfl, S.out⟩
     case rest =>
      obtain ⟨rfl, S⟩ := hcut
      replace S := Lib.hid S
      go_upto_if 62 with fail
      go_cut [12] (fun s12 wx => ∃ c : Int, s12 = .int .i64 c ∧ Hid (ordC x y = some c) ∧ Sep w ([boxE qe111, boxE (b + 1 + 1 + 1), boxZ (b + 1 + 1)] ++ bA) wx)
      case first =>
       cases ii with
       | true =>
        obtain ⟨hx2, hy2⟩ : x.kind = 2 ∧ y.kind = 2 := by simpa using HII.out
        have HXY := Lib.hid (And.intro hx2 hy2)
        clear hx2 hy2
        rcases Int.lt_trichotomy x.n y.n with ht | ht | ht
        ·
         have HT := Lib.hid ht
         clear ht
         have hlt : x.n < y.n := HT.out
         go_upto_region 21 with fail
         refine regionL (E := [boxE qe111, boxE (b + 1 + 1 + 1), boxZ (b + 1 + 1)]) (base := bA) S.out ?_
         clear S
         refine qa ?_
         refine qc C0 ?_
         refine qa ?_
         refine qc C1 ?_
         refine qa ?_
         refine doneL (h := fun w11 S => ?_)
         replace S := Lib.hid S
         clear hlt
         have hgt : ¬ y.n < x.n := by have := HT.out; omega
         go_upto_region 23 with fail
         refine regionL (E := [boxE qe111, boxE (b + 1 + 1 + 1), boxZ (b + 1 + 1)]) (base := bA) S.out ?_
         clear S
         refine qa ?_
         refine qc C0 ?_
         refine qa ?_
         refine qc C1 ?_
         refine qa ?_
         refine doneL (h := fun w12 S => ?_)
         replace S := Lib.hid S
         go_wp2_with fail; go_meet; exact ⟨(-1), rfl, Lib.hid (by unfold ordC; rw [if_pos HXY.out]; unfold cmpB; have := HT.out; repeat (first | rw [if_pos (by omega)] | rw [if_neg (by omega)])), S.out⟩
        ·
         have HT := Lib.hid ht
         clear ht
         have hlt : ¬ x.n < y.n := by have := HT.out; omega
         go_upto_region 21 with fail
         refine regionL (E := [boxE qe111, boxE (b + 1 + 1 + 1), boxZ (b + 1 + 1)]) (base := bA) S.out ?_
         clear S
         refine qa ?_
         refine qc C0 ?_
         refine qa ?_
         refine qc C1 ?_
         refine qa ?_
         refine doneL (h := fun w13 S => ?_)
         replace S := Lib.hid S
         clear hlt
         have hgt : ¬ y.n < x.n := by have := HT.out; omega
         go_upto_region 23 with fail
         refine regionL (E := [boxE qe111, boxE (b + 1 + 1 + 1), boxZ (b + 1 + 1)]) (base := bA) S.out ?_
         clear S
         refine qa ?_
         refine qc C0 ?_
         refine qa ?_
         refine qc C1 ?_
         refine qa ?_
         refine doneL (h := fun w14 S => ?_)
         replace S := Lib.hid S
         go_wp2_with fail; go_meet; exact ⟨0, rfl, Lib.hid (by unfold ordC; rw [if_pos HXY.out]; unfold cmpB; have := HT.out; repeat (first | rw [if_pos (by omega)] | rw [if_neg (by omega)])), S.out⟩
        ·
         have HT := Lib.hid ht
         clear ht
         have hlt : ¬ x.n < y.n := by have := HT.out; omega
         go_upto_region 21 with fail
         refine regionL (E := [boxE qe111, boxE (b + 1 + 1 + 1), boxZ (b + 1 + 1)]) (base := bA) S.out ?_
         clear S
         refine qa ?_
         refine qc C0 ?_
         refine qa ?_
         refine qc C1 ?_
         refine qa ?_
         refine doneL (h := fun w15 S => ?_)
         replace S := Lib.hid S
         clear hlt
         have hgt : y.n < x.n := HT.out
         go_upto_region 23 with fail
         refine regionL (E := [boxE qe111, boxE (b + 1 + 1 + 1), boxZ (b + 1 + 1)]) (base := bA) S.out ?_
         clear S
         refine qa ?_
         refine qc C0 ?_
         refine qa ?_
         refine qc C1 ?_
         refine qa ?_
         refine doneL (h := fun w16 S => ?_)
         replace S := Lib.hid S
         go_wp2_with fail; go_meet; exact ⟨1, rfl, Lib.hid (by unfold ordC; rw [if_pos HXY.out]; unfold cmpB; have := HT.out; repeat (first | rw [if_pos (by omega)] | rw [if_neg (by omega)])), S.out⟩
       | false =>
        have HNI : Hid (¬ (x.kind = 2 ∧ y.kind = 2)) := Lib.hid (by simpa using HII.out)
        obtain ⟨ns, hns⟩ : ∃ b, decide (¬ (x.kind = 3 ∧ y.kind = 3)) = b := ⟨_, rfl⟩
        have HNS := Lib.hid hns
        clear hns
        go_upto_region 25 with fail
        go_cut [80] (fun s80 wx => s80 = .bool ns ∧ Sep w ([boxE qe111, boxE (b + 1 + 1 + 1), boxZ (b + 1 + 1)] ++ bA) wx)
        case first =>
         by_cases h3 : x.kind = 3
         ·
          have e1 : (x.kind != 3) = false := by simp [h3]
          obtain ⟨u, hu⟩ : ∃ b, b = (y.kind != 3) := ⟨_, rfl⟩
          have HU := Lib.hid hu
          obtain rfl : ns = u := by rw [hu, ← HNS.out]; by_cases h : y.kind = 3 <;> simp [h3, h]
          clear hu h3
          refine regionL (E := [boxE qe111, boxE (b + 1 + 1 + 1), boxZ (b + 1 + 1)]) (base := bA) S.out ?_
          clear S
          refine qa ?_
          refine qc C0 ?_
          iterate 3 refine qa ?_
          refine qc C1 ?_
          refine qa (v := .bool ns) (hy := fun E Wx hSw => by (go_simp; rw [HU.out]; exact ⟨rfl, hSw⟩)) (h := ?_)
          refine qa ?_
          refine doneL (h := fun w17 S => ?_)
          replace S := Lib.hid S
          go_wp2_with fail
          go_meet
          exact ⟨rfl, S.out⟩
         ·
          have e1 : (x.kind != 3) = true := by simp [h3]
          obtain rfl : ns = true := by rw [← HNS.out]; simp [h3]
          clear h3
          refine regionL (E := [boxE qe111, boxE (b + 1 + 1 + 1), boxZ (b + 1 + 1)]) (base := bA) S.out ?_
          clear S
          refine qa ?_
          refine qc C0 ?_
          iterate 2 refine qa ?_
          iterate 3 refine qz ?_
          refine qa ?_
          refine doneL (h := fun w18 S => ?_)
          replace S := Lib.hid S
          go_wp2_with fail
          go_meet
          exact ⟨rfl, S.out⟩
        case rest =>
         obtain ⟨rfl, S⟩ := hcut
         replace S := Lib.hid S
         cases ns with
         | true =>
          have HTY : Hid (q = .type) := Lib.hid (by rw [← HQ.out]; exact cmpR_ord_no HOS.out HNI.out (by have := HNS.out; rw [decide_eq_true_eq] at this; exact this))
          have KW : QuietC w bA 49 #[] (.tuple #[zeroV, excN typeError]) := Lib.hid fun W Q T => by
           exact rwrong_ok T
          go_upto_region 26 with fail
          refine regionL (E := [boxE qe111, boxE (b + 1 + 1 + 1), boxZ (b + 1 + 1)]) (base := bA) S.out ?_
          clear S
          refine qk KW ?_
          iterate 2 refine qa ?_
          refine qd undef [boxE qe111, boxE (b + 1 + 1 + 1), boxZ (b + 1 + 1)] (h1 := fun Wx hSw => by (have hz := hSw.box (b := (b + 1 + 1)) (o := objZ) 2 rfl; refine useZ3 hz fun z0 z1 z2 y0 y1 y2 => ?_; go_simp; exact ⟨rfl, hSw.set3 2 rfl (.int .i64 0) (.int .i64 0) (.string ⟨#[]⟩)⟩)) (h2 := ?_)
          refine qd undef [boxE qe111, boxN (b + 1 + 1 + 1) typeError, boxZ (b + 1 + 1)] (h1 := fun Wx hSw => by (have hz := hSw.box (b := (b + 1 + 1 + 1)) (o := objE) 1 rfl; refine useZ5 hz fun z0 z1 z2 z3 z4 y0 y1 y2 y3 y4 => ?_; go_simp; exact ⟨rfl, hSw.set5 1 rfl (.string typeError) (.int .i64 0) (.int .i64 0) (.string ⟨#[]⟩) (.bool false)⟩)) (h2 := ?_)
          refine doneL (h := fun w19 S => ?_)
          replace S := Lib.hid S
          obtain rfl : q = .type := HTY.out
          replace S := S.out
          refine useR3 (S.box (b := b + 1 + 1) (o := objZ) 2 rfl) fun r0 r1 r2 => ?_
          refine useR5 (S.box (b := b + 1 + 1 + 1) (o := objN typeError) 1 rfl) fun r3 r4 r5 r6 r7 => ?_
          replace S := Lib.hid S
          repeat (first | go_values | go_skip | go_guarded | go_step)
          refine bodyPost_ret (v := .tuple #[zeroV, excN typeError]) ?_ ?_ ?_
          ·
           simp [results, Tryz.results26, go_sem, r0, r1, r2, r3, r4, r5, r6, r7]
          ·
           rfl
          refine ⟨rfl, ?_⟩
          replace S := S.out
          rw [HBS.out] at S
          exact S.tail.tail.tail.tail.tail
         | false =>
          have hss : x.kind = 3 ∧ y.kind = 3 := by have := HNS.out; rw [decide_eq_false_iff_not, Decidable.not_not] at this; exact this
          have HSS := Lib.hid hss
          clear hss
          go_wp2_with fail; go_meet; exact ⟨cs, rfl, Lib.hid (by unfold ordC; rw [if_neg HNI.out, if_pos HSS.out, HCS.out]), S.out⟩
      case rest =>
       obtain ⟨c, rfl, HC0, S⟩ := hcut
       replace S := Lib.hid S
       have HV : Hid (q = .ok (ordW op c)) := Lib.hid (by rw [← HQ.out]; exact cmpR_ord HOS.out HC0.out)
       clear HQ HC0
       go_upto_region 27 with fail
       rcases Int.lt_trichotomy c 0 with ht | ht | ht
       ·
        have h1 : c < 0 := ht
        have h2 : c ≤ 0 := by omega
        have h3 : ¬ 0 < c := by omega
        have h4 : ¬ 0 ≤ c := by omega
        have hos := HOS.out
        rcases hos with rfl | rfl | rfl | rfl <;> (go_wp2_with fail; go_meet; exact ⟨_, ⟨#[]⟩, Lib.hid (by rw [HV.out]; exact ⟨by first | rfl | (simp [ordW]; done) | (simp [ordW]; omega), rfl⟩), rfl, S.out⟩)
       ·
        subst ht
        have hos := HOS.out
        rcases hos with rfl | rfl | rfl | rfl <;> (go_wp2_with fail; go_meet; exact ⟨_, ⟨#[]⟩, Lib.hid (by rw [HV.out]; exact ⟨by first | rfl | (simp [ordW]; done) | (simp [ordW]; omega), rfl⟩), rfl, S.out⟩)
       ·
        have h1 : ¬ c < 0 := by omega
        have h2 : ¬ c ≤ 0 := by omega
        have h3 : 0 < c := ht
        have h4 : 0 ≤ c := by omega
        have hos := HOS.out
        rcases hos with rfl | rfl | rfl | rfl <;> (go_wp2_with fail; go_meet; exact ⟨_, ⟨#[]⟩, Lib.hid (by rw [HV.out]; exact ⟨by first | rfl | (simp [ordW]; done) | (simp [ordW]; omega), rfl⟩), rfl, S.out⟩)
  ·
   as_aux_lemma =>
    obtain ⟨n1, n2, n3, n4⟩ := hs
    have hn0 : (op.toList == [61, 61]) = false := lit_ne (w := ⟨#[61, 61]⟩) fun e => n1 (.inl e)
    have hn1 : (op.toList == [33, 61]) = false := lit_ne (w := ⟨#[33, 61]⟩) fun e => n1 (.inr e)
    have hn2 : (op.toList == [105, 115]) = false := lit_ne (w := ⟨#[105, 115]⟩) fun e => n2 (.inl e)
    have hn3 : (op.toList == [105, 115, 32, 110, 111, 116]) = false := lit_ne (w := ⟨#[105, 115, 32, 110, 111, 116]⟩) fun e => n2 (.inr e)
    have hn4 : (op.toList == [105, 110]) = false := lit_ne (w := ⟨#[105, 110]⟩) fun e => n3 (.inl e)
    have hn5 : (op.toList == [110, 111, 116, 32, 105, 110]) = false := lit_ne (w := ⟨#[110, 111, 116, 32, 105, 110]⟩) fun e => n3 (.inr e)
    have hn6 : (op.toList == [60]) = false := lit_ne (w := ⟨#[60]⟩) fun e => n4 (.inl e)
    have hn7 : (op.toList == [60, 61]) = false := lit_ne (w := ⟨#[60, 61]⟩) fun e => n4 (.inr (.inl e))
    have hn8 : (op.toList == [62]) = false := lit_ne (w := ⟨#[62]⟩) fun e => n4 (.inr (.inr (.inl e)))
    have hn9 : (op.toList == [62, 61]) = false := lit_ne (w := ⟨#[62, 61]⟩) fun e => n4 (.inr (.inr (.inr e)))
    have HTY : Hid (q = .type) := Lib.hid (by rw [← HQ.out]; exact cmpR_no n1 n2 n3 n4)
    clear n1 n2 n3 n4
    have KW : QuietC w bA 49 #[] (.tuple #[zeroV, excN typeError]) := Lib.hid fun W Q T => by
     exact rwrong_ok T
    go_upto_region 4 with fail
    refine regionL (E := [boxE qe111, boxE (b + 1 + 1 + 1), boxZ (b + 1 + 1)]) (base := bA) S.out ?_
    clear S
    refine qk KW ?_
    iterate 2 refine qa ?_
    refine qd undef [boxE qe111, boxE (b + 1 + 1 + 1), boxZ (b + 1 + 1)] (h1 := fun Wx hSw => by (have hz := hSw.box (b := (b + 1 + 1)) (o := objZ) 2 rfl; refine useZ3 hz fun z0 z1 z2 y0 y1 y2 => ?_; go_simp; exact ⟨rfl, hSw.set3 2 rfl (.int .i64 0) (.int .i64 0) (.string ⟨#[]⟩)⟩)) (h2 := ?_)
    refine qd undef [boxE qe111, boxN (b + 1 + 1 + 1) typeError, boxZ (b + 1 + 1)] (h1 := fun Wx hSw => by (have hz := hSw.box (b := (b + 1 + 1 + 1)) (o := objE) 1 rfl; refine useZ5 hz fun z0 z1 z2 z3 z4 y0 y1 y2 y3 y4 => ?_; go_simp; exact ⟨rfl, hSw.set5 1 rfl (.string typeError) (.int .i64 0) (.int .i64 0) (.string ⟨#[]⟩) (.bool false)⟩)) (h2 := ?_)
    refine doneL (h := fun w20 S => ?_)
    replace S := Lib.hid S
    obtain rfl : q = .type := HTY.out
    replace S := S.out
    refine useR3 (S.box (b := b + 1 + 1) (o := objZ) 2 rfl) fun r0 r1 r2 => ?_
    refine useR5 (S.box (b := b + 1 + 1 + 1) (o := objN typeError) 1 rfl) fun r3 r4 r5 r6 r7 => ?_
    replace S := Lib.hid S
    repeat (first | go_values | go_skip | go_guarded | go_step)
    refine bodyPost_ret (v := .tuple #[zeroV, excN typeError]) ?_ ?_ ?_
    ·
     simp [results, Tryz.results26, go_sem, r0, r1, r2, r3, r4, r5, r6, r7]
    ·
     rfl
    refine ⟨rfl, ?_⟩
    replace S := S.out
    rw [HBS.out] at S
    exact S.tail.tail.tail.tail.tail
 case rest =>
  obtain ⟨bb, nm, HC, rfl, S⟩ := hcut
  replace S := Lib.hid S
  clear HQ
  by_cases hq : ∃ c, q = .ok c
  ·
   as_aux_lemma =>
    obtain ⟨c, rfl⟩ := hq
    obtain ⟨rfl, rfl⟩ : bb = c ∧ nm = ⟨#[]⟩ := HC.out
    go_upto_region 28 with fail
    refine regionL (E := [boxE qe111, boxE (b + 1 + 1 + 1), boxZ (b + 1 + 1)]) (base := bA) S.out ?_
    clear S
    refine qd _ [boxE qe111, boxE (b + 1 + 1 + 1), boxZ (b + 1 + 1)] (h1 := fun Wx hSw => by (have hz := hSw.box (b := qe111) (o := objE) 0 rfl; have z0 := cellAt hz 0 (v := .string ⟨#[]⟩) rfl; have z1 := cellAt hz 1 (v := .int .i64 0) rfl; have z2 := cellAt hz 2 (v := .int .i64 0) rfl; have z3 := cellAt hz 3 (v := .string ⟨#[]⟩) rfl; have z4 := cellAt hz 4 (v := .bool false) rfl; go_simp; exact ⟨rfl, hSw⟩)) (h2 := ?_)
    iterate 2 refine qa ?_
    refine doneL (h := fun w21 S => ?_)
    replace S := Lib.hid S
    go_upto_region 30 with fail
    go_cut [128] (fun s128 wx => s128 = .bool nt ∧ Sep w ([boxE qe111, boxE (b + 1 + 1 + 1), boxZ (b + 1 + 1)] ++ bA) wx)
    case first =>
     by_cases m1 : op = ⟨#[33, 61]⟩
     ·
      obtain rfl : nt = true := by rw [← HNT.out, m1]; rfl
      subst m1; go_wp2_with fail; go_meet; exact ⟨rfl, S.out⟩
     by_cases m2 : op = ⟨#[105, 115, 32, 110, 111, 116]⟩
     ·
      obtain rfl : nt = true := by rw [← HNT.out, m2]; rfl
      subst m2; go_wp2_with fail; go_meet; exact ⟨rfl, S.out⟩
     by_cases m3 : op = ⟨#[110, 111, 116, 32, 105, 110]⟩
     ·
      obtain rfl : nt = true := by rw [← HNT.out, m3]; rfl
      subst m3; go_wp2_with fail; go_meet; exact ⟨rfl, S.out⟩
     obtain rfl : nt = false := by rw [← HNT.out]; unfold ntB; rw [decide_eq_false m1, decide_eq_false m2, decide_eq_false m3]; rfl
     have hn0 : (op.toList == [33, 61]) = false := lit_ne (w := ⟨#[33, 61]⟩) m1
     have hn1 : (op.toList == [105, 115, 32, 110, 111, 116]) = false := lit_ne (w := ⟨#[105, 115, 32, 110, 111, 116]⟩) m2
     have hn2 : (op.toList == [110, 111, 116, 32, 105, 110]) = false := lit_ne (w := ⟨#[110, 111, 116, 32, 105, 110]⟩) m3
     clear m1 m2 m3
     go_wp2_with fail; go_meet; exact ⟨rfl, S.out⟩
    case rest =>
     obtain ⟨rfl, S⟩ := hcut
     replace S := Lib.hid S
     cases nt with
     | false =>
      obtain ⟨yn, hyn⟩ : ∃ n, n = (if (bb) = true then (1 : Int) else 0) := ⟨_, rfl⟩
      have HYN := Lib.hid hyn
      clear hyn
      have KY : QuietC w bA 121 #[.bool bb] (.agg #[.int .i64 1, .int .i64 yn, .string ⟨#[]⟩]) := Lib.hid fun W Q T => by
       have hh := ryes_ok W (bb)
       rw [yesV, ← HYN.out] at hh
       exact hh.mono fun e W' ⟨e1, e2⟩ => ⟨e1, T.later e2⟩
      go_upto_region 32 with fail
      refine regionL (E := [boxE qe111, boxE (b + 1 + 1 + 1), boxZ (b + 1 + 1)]) (base := bA) S.out ?_
      clear S
      refine qa ?_
      refine qk KY ?_
      refine qa ?_
      refine qd undef [boxE qe111, boxE (b + 1 + 1 + 1), boxW (b + 1 + 1) 1 yn ⟨#[]⟩] (h1 := fun Wx hSw => by (have hz := hSw.box (b := (b + 1 + 1)) (o := objZ) 2 rfl; refine useZ3 hz fun z0 z1 z2 y0 y1 y2 => ?_; go_simp; exact ⟨rfl, hSw.set3 2 rfl (.int .i64 1) (.int .i64 yn) (.string ⟨#[]⟩)⟩)) (h2 := ?_)
      refine qd undef [boxE qe111, boxE (b + 1 + 1 + 1), boxW (b + 1 + 1) 1 yn ⟨#[]⟩] (h1 := fun Wx hSw => by (have hz := hSw.box (b := (b + 1 + 1 + 1)) (o := objE) 1 rfl; refine useZ5 hz fun z0 z1 z2 z3 z4 y0 y1 y2 y3 y4 => ?_; go_simp; exact ⟨rfl, hSw.set5 1 rfl (.string ⟨#[]⟩) (.int .i64 0) (.int .i64 0) (.string ⟨#[]⟩) (.bool false)⟩)) (h2 := ?_)
      refine doneL (h := fun w22 S => ?_)
      refine useR3 (S.box (b := b + 1 + 1) (o := objW 1 yn ⟨#[]⟩) 2 rfl) fun r0 r1 r2 => ?_
      refine useR5 (S.box (b := b + 1 + 1 + 1) (o := objE) 1 rfl) fun r3 r4 r5 r6 r7 => ?_
      replace S := Lib.hid S
      repeat (first | go_values | go_skip | go_guarded | go_step)
      refine bodyPost_ret (v := .tuple #[.agg #[.int .i64 1, .int .i64 yn, .string ⟨#[]⟩], excZ]) ?_ ?_ ?_
      ·
       simp [results, Tryz.results26, go_sem, r0, r1, r2, r3, r4, r5, r6, r7]
      ·
       rfl
      refine ⟨by rw [HYN.out]; cases bb <;> rfl, ?_⟩
      replace S := S.out
      rw [HBS.out] at S
      exact S.tail.tail.tail.tail.tail
     | true =>
      obtain ⟨yn, hyn⟩ : ∃ n, n = (if (!bb) = true then (1 : Int) else 0) := ⟨_, rfl⟩
      have HYN := Lib.hid hyn
      clear hyn
      have KY : QuietC w bA 121 #[.bool (!bb)] (.agg #[.int .i64 1, .int .i64 yn, .string ⟨#[]⟩]) := Lib.hid fun W Q T => by
       have hh := ryes_ok W (!bb)
       rw [yesV, ← HYN.out] at hh
       exact hh.mono fun e W' ⟨e1, e2⟩ => ⟨e1, T.later e2⟩
      go_upto_region 32 with fail
      refine regionL (E := [boxE qe111, boxE (b + 1 + 1 + 1), boxZ (b + 1 + 1)]) (base := bA) S.out ?_
      clear S
      refine qa ?_
      refine qk KY ?_
      refine qa ?_
      refine qd undef [boxE qe111, boxE (b + 1 + 1 + 1), boxW (b + 1 + 1) 1 yn ⟨#[]⟩] (h1 := fun Wx hSw => by (have hz := hSw.box (b := (b + 1 + 1)) (o := objZ) 2 rfl; refine useZ3 hz fun z0 z1 z2 y0 y1 y2 => ?_; go_simp; exact ⟨rfl, hSw.set3 2 rfl (.int .i64 1) (.int .i64 yn) (.string ⟨#[]⟩)⟩)) (h2 := ?_)
      refine qd undef [boxE qe111, boxE (b + 1 + 1 + 1), boxW (b + 1 + 1) 1 yn ⟨#[]⟩] (h1 := fun Wx hSw => by (have hz := hSw.box (b := (b + 1 + 1 + 1)) (o := objE) 1 rfl; refine useZ5 hz fun z0 z1 z2 z3 z4 y0 y1 y2 y3 y4 => ?_; go_simp; exact ⟨rfl, hSw.set5 1 rfl (.string ⟨#[]⟩) (.int .i64 0) (.int .i64 0) (.string ⟨#[]⟩) (.bool false)⟩)) (h2 := ?_)
      refine doneL (h := fun w23 S => ?_)
      refine useR3 (S.box (b := b + 1 + 1) (o := objW 1 yn ⟨#[]⟩) 2 rfl) fun r0 r1 r2 => ?_
      refine useR5 (S.box (b := b + 1 + 1 + 1) (o := objE) 1 rfl) fun r3 r4 r5 r6 r7 => ?_
      replace S := Lib.hid S
      repeat (first | go_values | go_skip | go_guarded | go_step)
      refine bodyPost_ret (v := .tuple #[.agg #[.int .i64 1, .int .i64 yn, .string ⟨#[]⟩], excZ]) ?_ ?_ ?_
      ·
       simp [results, Tryz.results26, go_sem, r0, r1, r2, r3, r4, r5, r6, r7]
      ·
       rfl
      refine ⟨by rw [HYN.out]; cases bb <;> rfl, ?_⟩
      replace S := S.out
      rw [HBS.out] at S
      exact S.tail.tail.tail.tail.tail
  ·
   as_aux_lemma =>
    have hcv : cmpV q nt = .tuple #[zeroV, excN nm] ∧ nm.toList ≠ [] := by
     have e := HC.out
     cases q with
     | ok c => exact absurd ⟨c, rfl⟩ hq
     | type => rw [show nm = typeError from e]; exact ⟨rfl, by rw [ByteArray.toList_eq]; decide⟩
     | deep => rw [show nm = recursionError from e]; exact ⟨rfl, by rw [ByteArray.toList_eq]; decide⟩
    have HCV := Lib.hid hcv.1
    have hne : (nm.toList == []) = false := by simpa using hcv.2
    have hne2 : nm.toList.isEmpty = false := by have := hcv.2; cases h : nm.toList <;> simp_all
    clear hcv hq HC
    go_upto_region 28 with fail
    refine regionL (E := [boxN qe111 nm, boxE (b + 1 + 1 + 1), boxZ (b + 1 + 1)]) (base := bA) S.out ?_
    clear S
    refine qd _ [boxN qe111 nm, boxE (b + 1 + 1 + 1), boxZ (b + 1 + 1)] (h1 := fun Wx hSw => by (have hz := hSw.box (b := qe111) (o := objN nm) 0 rfl; have z0 := cellAt hz 0 (v := .string nm) rfl; have z1 := cellAt hz 1 (v := .int .i64 0) rfl; have z2 := cellAt hz 2 (v := .int .i64 0) rfl; have z3 := cellAt hz 3 (v := .string ⟨#[]⟩) rfl; have z4 := cellAt hz 4 (v := .bool false) rfl; go_simp; exact ⟨rfl, hSw⟩)) (h2 := ?_)
    iterate 2 refine qa ?_
    refine doneL (h := fun w24 S => ?_)
    replace S := Lib.hid S
    clear hne hne2
    obtain ⟨bK, hnb⟩ : ∃ l, l = [boxN qe111 nm] ++ bA := ⟨_, rfl⟩
    have HBbK := Lib.hid hnb
    replace S : Sep w ([boxE (b + 1 + 1 + 1), boxZ (b + 1 + 1)] ++ bK) w24 := by
     rw [hnb]
     refine S.out.perm ?_
     exact (show ([boxN qe111 nm, boxE (b + 1 + 1 + 1), boxZ (b + 1 + 1)] ++ bA).Perm ([boxE (b + 1 + 1 + 1), boxZ (b + 1 + 1)] ++ ([boxN qe111 nm] ++ bA)) from by rw [← List.append_assoc]; exact List.Perm.append_right bA (by exact perm_of [1, 2, 0] (by show (List.range' 0 3).Perm [1, 2, 0]; decide) (by rfl)))
    clear hnb
    replace S := Lib.hid S
    have C1_bK := liftC HBbK C1
    have C0_bK := liftC HBbK C0
    have Ce11_bK := baseC5 (w := w) (b := qe111) HBbK.out 0 rfl
    go_upto_region 29 with fail
    go_cut [] (fun  wx => Sep w ([boxN (b + 1 + 1 + 1) nm, boxZ (b + 1 + 1)] ++ bK) wx)
    case first =>
     refine regionP 2 2 (E := [boxE (b + 1 + 1 + 1), boxZ (b + 1 + 1)]) (base := bK) S.out ?_
     clear S
     refine qp ?_
     refine qpc Ce11_bK ?_
     refine endP ?_
     refine readyS [2] ?_
     refine detS undef [boxE (b + 1 + 1 + 1), boxZ (b + 1 + 1)] (h1 := fun Wx hSw => by (have hz := hSw.box (b := (b + 1 + 1)) (o := objZ) 1 rfl; refine useZ3 hz fun z0 z1 z2 y0 y1 y2 => ?_; go_simp; exact ⟨rfl, hSw.set3 1 rfl (.int .i64 0) (.int .i64 0) (.string ⟨#[]⟩)⟩)) (h2 := ?_) (hs := nilS); simp only [Act.put, pa]; try dsimp only [List.set]
     refine readyS [3] ?_
     refine detS undef [boxN (b + 1 + 1 + 1) nm, boxZ (b + 1 + 1)] (h1 := fun Wx hSw => by (have hz := hSw.box (b := (b + 1 + 1 + 1)) (o := objE) 0 rfl; refine useZ5 hz fun z0 z1 z2 z3 z4 y0 y1 y2 y3 y4 => ?_; go_simp; exact ⟨rfl, hSw.set5 0 rfl (.string nm) (.int .i64 0) (.int .i64 0) (.string ⟨#[]⟩) (.bool false)⟩)) (h2 := ?_) (hs := nilS); simp only [Act.put, pa]; try dsimp only [List.set]
     refine doneS (h := fun w25 S => ?_)
     go_wp2_with fail
     go_meet
     exact S
    case rest =>
     have S := hcut
     refine useR3 (S.box (b := b + 1 + 1) (o := objZ) 1 rfl) fun r0 r1 r2 => ?_
     refine useR5 (S.box (b := b + 1 + 1 + 1) (o := objN nm) 0 rfl) fun r3 r4 r5 r6 r7 => ?_
     replace S := Lib.hid S
     repeat (first | go_values | go_skip | go_guarded | go_step)
     refine bodyPost_ret (v := .tuple #[zeroV, excN nm]) ?_ ?_ ?_
     ·
      simp [results, Tryz.results26, go_sem, r0, r1, r2, r3, r4, r5, r6, r7]
     ·
      rfl
     refine ⟨by rw [HCV.out], ?_⟩
     replace S := S.out
     rw [HBbK.out] at S
     rw [HBS.out] at S
     exact S.tail.tail.tail.tail.tail
end
end Go.Proofs.YtijlebhoapdfnaaGreat
