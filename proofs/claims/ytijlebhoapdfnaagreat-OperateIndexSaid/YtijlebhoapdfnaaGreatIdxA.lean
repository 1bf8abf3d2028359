/- ch 16: what operate's indices and slices tell, in all cases. -/
import Derived.Test.YtijlebhoapdfnaaGreatOprS
import Derived.Test.YtijlebhoapdfnaaGreatText1
set_option maxRecDepth 100000
set_option maxHeartbeats 12800000
namespace Go.Proofs.YtijlebhoapdfnaaGreat
set_option linter.unusedSimpArgs false
open Go.RowKit
set_option linter.unusedVariables false
section
variable {w W : World} {Rs : List Res} {h : Nat} {H : HeapM}
theorem tat_ok (W : World) (s : ByteArray) (i : Int) (hs : s.size ≤ 9000000) (hi : okI i) : Calls Tryz.prog 83 #[.string s, .int .i64 i] W fun e W' => e = .returned (.tuple #[.string (atS s i), .string (if inP s.size i = true then ⟨#[]⟩ else indexError)]) ∧ W' = W := by
 have hb : -9223372036854775808 ≤ i ∧ i ≤ 9223372036854775807 := okI_range hi
 have hm : s.size ≤ maxLen := by unfold maxLen; omega
 unfold atS
 by_cases hp : inP s.size i = true
 ·
  rw [if_pos hp, if_pos hp]
  by_cases h0 : i < 0
  ·
   have hp2 := hp
   unfold inP placeP at hp2
   rw [if_pos h0] at hp2
   simp at hp2
   have e : placeP s.size i = i + s.size := by unfold placeP; rw [if_pos h0]
   rw [e]
   exact (at_neg s i W hm h0 (by omega)).mono fun e W' ⟨e1, e2⟩ => ⟨e1, e2.symm⟩
  ·
   have hp2 := hp
   unfold inP placeP at hp2
   rw [if_neg h0] at hp2
   simp at hp2
   have e : placeP s.size i = i := by unfold placeP; rw [if_neg h0]
   rw [e]
   exact (at_ok s i W hm (by omega) (by omega)).mono fun e W' ⟨e1, e2⟩ => ⟨e1, e2.symm⟩
 ·
  rw [if_neg hp, if_neg hp]
  refine (at_out s i W hm hb.1 ?_).mono fun e W' ⟨e1, e2⟩ => ⟨e1, e2.symm⟩
  unfold inP placeP at hp
  simp at hp
  split at hp <;> omega
attribute [local irreducible] wpSeqS wpAnyS wpPreS
theorem idx_str (S : Sep w Rs W) (x y : V) (hx : x.kind = 3) (hy : y.kind = 2) (hsz : x.s.size ≤ 9000000) (r : AnsM) (hr : (if inP x.s.size y.n = true then ansV (sV (atS x.s y.n) (atS_le x y.n)) else ansN indexError) = r) : Calls Tryz.prog 17 #[.pointer (some ⟨h, 0, none⟩), .agg #[.int .i64 x.kind, .int .i64 x.n, .string x.s], .agg #[.int .i64 y.kind, .int .i64 y.n, .string y.s]] W fun e W' => e = .returned r.val ∧ Sep w Rs W' := by
 have hv : r = if inP x.s.size y.n = true then ansV (sV (atS x.s y.n) (atS_le x y.n)) else ansN indexError := hr.symm
 have e1 : (x.kind == 3) = true := by simp [hx]
 have e2 : (y.kind == 2) = true := by simp [hy]
 obtain ⟨a, ha⟩ : ∃ a, a = atS x.s y.n := ⟨_, rfl⟩
 obtain ⟨nm, hnm⟩ : ∃ m, m = (if inP x.s.size y.n = true then ⟨#[]⟩ else indexError) := ⟨_, rfl⟩
 have HV := Lib.hid hv
 have HA := Lib.hid ha
 have HNM := Lib.hid hnm
 have HSZ := Lib.hid hsz
 have HE := Lib.hid (And.intro e1 e2)
 clear hv ha hnm hr hx hy hsz e1 e2
 obtain ⟨b, hb⟩ : ∃ gx_, (W.heap.size) = gx_ := ⟨_, rfl⟩
 replace S := ((((S.alloc (.cells #[.int .i64 x.kind, .int .i64 x.n, .string x.s] 24)).alloc (.cells #[.int .i64 y.kind, .int .i64 y.n, .string y.s] 24)).alloc (.cells #[.int .i64 0, .int .i64 0, .string ⟨#[]⟩] 24)).alloc (.cells #[.string ⟨#[]⟩, .int .i64 0, .int .i64 0, .string ⟨#[]⟩, .bool false] 33))
 simp only [World.size_alloc, hb] at S
 obtain ⟨bA, hbs⟩ : ∃ l, l = boxV (b + 1) y :: boxV b x :: Rs := ⟨_, rfl⟩
 have HBS := Lib.hid hbs
 replace S := enterP (w := w) (all := [boxE (b + 1 + 1 + 1), boxZ (b + 1 + 1), boxV (b + 1) y, boxV b x]) (E := [boxE (b + 1 + 1 + 1), boxZ (b + 1 + 1)]) (B := [boxV (b + 1) y, boxV b x]) (Rs := Rs) S hbs (perm_of [0, 1, 2, 3] (by show (List.range' 0 4).Perm [0, 1, 2, 3]; decide) (by rfl))
 have C1 := baseC3 (w := w) (b := b + 1) hbs 0 rfl
 have C0 := baseC3 (w := w) (b := b) hbs 1 rfl
 clear hbs
 replace S := Lib.hid S
 go_enter Tryz.func17, Tryz.ntmps17
 go_upto_region 1 with fail
 try simp only [World.size_alloc, hb]
 clear hb
 have KT : QuietC w bA 82 #[.string a, .string nm] (.tuple #[.agg #[.int .i64 r.v.kind, .int .i64 r.v.n, .string r.v.s], .agg #[.string r.nm, .int .i64 r.ar.kind, .int .i64 r.ar.n, .string r.ar.s, .bool r.has]]) := Lib.hid fun W Q T => by
  have hv := HV.out
  have hnm := HNM.out
  have ha := HA.out
  by_cases hi : inP x.s.size y.n = true
  ·
   rw [if_pos hi] at hv hnm; subst hv hnm ha; exact (ostr_z W _).mono fun e W' ⟨e1, e2⟩ => ⟨e1, T.later e2⟩
  ·
   rw [if_neg hi] at hv hnm; subst hv hnm ha; exact ostr_no T _ indexError (by rw [ByteArray.toList_eq]; decide)
 have KA : QuietC w bA 83 #[.string x.s, .int .i64 y.n] (.tuple #[.string a, .string nm]) := Lib.hid fun W Q T => by
  have hh := tat_ok W x.s y.n HSZ.out y.hn
  rw [← HA.out, ← HNM.out] at hh
  exact hh.mono fun e W' ⟨e1, e2⟩ => ⟨e1, by rw [e2]; exact T⟩
 refine regionL (E := [boxE (b + 1 + 1 + 1), boxZ (b + 1 + 1)]) (base := bA) S.out ?_
 clear S
 refine qa ?_
 refine qc C0 ?_
 refine qa (v := .bool true) (hy := fun E Wx hSw => by (go_simp; rw [HE.out.1]; exact ⟨rfl, hSw⟩)) (h := ?_)
 iterate 2 refine qa ?_
 refine qc C1 ?_
 refine qa (v := .bool true) (hy := fun E Wx hSw => by (go_simp; rw [HE.out.2]; exact ⟨rfl, hSw⟩)) (h := ?_)
 iterate 2 refine qa ?_
 refine doneL (h := fun w1 S => ?_)
 replace S := Lib.hid S
 go_upto_region 2 with fail
 refine regionL (E := [boxE (b + 1 + 1 + 1), boxZ (b + 1 + 1)]) (base := bA) S.out ?_
 clear S
 refine qa ?_
 refine qc C0 ?_
 refine qa ?_
 refine qc C1 ?_
 refine qk KA ?_
 iterate 2 refine qa ?_
 refine qk KT ?_
 iterate 2 refine qa ?_
 refine qd undef [boxE (b + 1 + 1 + 1), boxW (b + 1 + 1) r.v.kind r.v.n r.v.s] (h1 := fun Wx hSw => by (have hz := hSw.box (b := (b + 1 + 1)) (o := objZ) 1 rfl; refine useZ3 hz fun z0 z1 z2 y0 y1 y2 => ?_; go_simp; exact ⟨rfl, hSw.set3 1 rfl (.int .i64 r.v.kind) (.int .i64 r.v.n) (.string r.v.s)⟩)) (h2 := ?_)
 refine qd undef [boxX (b + 1 + 1 + 1) r.nm r.ar.kind r.ar.n r.ar.s r.has, boxW (b + 1 + 1) r.v.kind r.v.n r.v.s] (h1 := fun Wx hSw => by (have hz := hSw.box (b := (b + 1 + 1 + 1)) (o := objE) 0 rfl; refine useZ5 hz fun z0 z1 z2 z3 z4 y0 y1 y2 y3 y4 => ?_; go_simp; exact ⟨rfl, hSw.set5 0 rfl (.string r.nm) (.int .i64 r.ar.kind) (.int .i64 r.ar.n) (.string r.ar.s) (.bool r.has)⟩)) (h2 := ?_)
 refine doneL (h := fun w2 S => ?_)
 refine useR3 (S.box (b := b + 1 + 1) (o := objW r.v.kind r.v.n r.v.s) 1 rfl) fun r0 r1 r2 => ?_
 refine useR5 (S.box (b := b + 1 + 1 + 1) (o := objX r.nm r.ar.kind r.ar.n r.ar.s r.has) 0 rfl) fun r3 r4 r5 r6 r7 => ?_
 replace S := Lib.hid S
 repeat (first | go_values | go_skip | go_guarded | go_step)
 refine bodyPost_ret (v := .tuple #[.agg #[.int .i64 r.v.kind, .int .i64 r.v.n, .string r.v.s], .agg #[.string r.nm, .int .i64 r.ar.kind, .int .i64 r.ar.n, .string r.ar.s, .bool r.has]]) ?_ ?_ ?_
 ·
  simp [results, Tryz.results17, go_sem, r0, r1, r2, r3, r4, r5, r6, r7]
 ·
  rfl
 refine ⟨rfl, ?_⟩
 replace S := S.out
 rw [HBS.out] at S
 exact S.tail.tail.tail.tail
theorem idx_any (S : Sep w Rs W) (i : Nat) (hi : Rs[i]? = some (heapR h H)) {N : Nat} (G : H.Good N) (hN : N ≤ 4000000) (x y : V) (hsz : x.s.size ≤ 9000000) (r : AnsM) (hr : H.idxM x y = r) : Calls Tryz.prog 17 #[.pointer (some ⟨h, 0, none⟩), .agg #[.int .i64 x.kind, .int .i64 x.n, .string x.s], .agg #[.int .i64 y.kind, .int .i64 y.n, .string y.s]] W fun e W' => e = .returned r.val ∧ Sep w Rs W' := by
 by_cases h1 : x.kind = 3 ∧ y.kind = 2
 ·
  exact idx_str S x y h1.1 h1.2 hsz r (by rw [← hr]; unfold HeapM.idxM; rw [if_pos h1])
 subst hr
 unfold HeapM.idxM
 rw [if_neg h1]
 by_cases hr : H.rowB x = true
 ·
  have hkx := HeapM.rowB_kind hr
  have hx3 : ¬ x.kind = 3 := by have := H.kind_ref x (by omega); omega
  by_cases hy : y.kind = 2
  ·
   rw [if_pos ⟨hr, hy⟩]
   by_cases hp : inP (H.items x).length y.n = true
   ·
    rw [if_pos hp]
    have ha := at_in (H := H) (x := x) rfl y.n
    rw [if_pos hp, hp] at ha
    obtain ⟨z, hz⟩ := Option.isSome_iff_exists.1 ha
    rw [hz]
    exact idx_row S i hi G hN x y z hr hy hp hz
   ·
    rw [if_neg hp]
    exact idx_row_no S i hi G hN x y hr hy (by simpa using hp)
  ·
   rw [if_neg (fun e => hy e.2), if_neg (fun e => by omega)]
   exact idx_w2 S i hi x y hx3 hr (by omega) hy
 ·
  have hr' : H.rowB x = false := by simpa using hr
  rw [if_neg (fun e => hr e.1)]
  by_cases hd : H.kind x = 3
  ·
   have hx3 : ¬ x.kind = 3 := by have := H.kind_ref x (by omega); omega
   by_cases hk : y.isKey = true
   ·
    rw [if_pos ⟨hd, hk⟩]
    cases hg : H.get x y with
    | some z => exact idx_dict S i hi x y z hx3 hr' hd hk hg
    | none => exact idx_lost S i hi x y hx3 hr' hd hk hg
   ·
    rw [if_neg (fun e => hk e.2)]
    exact idx_w3 S i hi x y hx3 hr' hd (by simpa using hk)
  ·
   rw [if_neg (fun e => hd e.1)]
   by_cases hx3 : x.kind = 3
   ·
    exact idx_w1 S i hi x y hx3 hr' hd (fun e => h1 ⟨hx3, e⟩)
   ·
    exact idx_w4 S i hi x y hx3 hr' hd
theorem set_same_r {i : Nat} {r : Res} (hi : Rs[i]? = some r) : Rs.set i r = Rs := by
 obtain ⟨h1, h2⟩ := List.getElem?_eq_some_iff.1 hi
 rw [← h2]; exact List.set_getElem_self h1
theorem sl_any (S : Sep w Rs W) (i : Nat) (hi : Rs[i]? = some (heapR h H)) {N : Nat} (F : H.Fit N) (hN : N ≤ 4096) (x y z : V) (hl : okI (H.last + 1)) (r : AnsM) (hr : H.slA hl x y z = r) (H1 : HeapM) (hh1 : H.slH x y z = H1) : Calls Tryz.prog 19 #[.pointer (some ⟨h, 0, none⟩), .agg #[.int .i64 x.kind, .int .i64 x.n, .string x.s], .agg #[.int .i64 y.kind, .int .i64 y.n, .string y.s], .agg #[.int .i64 z.kind, .int .i64 z.n, .string z.s]] W fun e W' => e = .returned r.val ∧ Sep w (Rs.set i (heapR h H1)) W' := by
 subst hr hh1
 unfold HeapM.slA HeapM.slH
 have hf : okI (endN y 0) := by unfold endN; split; decide; exact y.hn
 have hgl := F.G.items x
 by_cases hx : x.kind = 3
 ·
  have hrb : H.rowB x = false := by
   cases e : H.rowB x with
   | false => rfl
   | true => have := HeapM.rowB_kind e; have := H.kind_ref x (by omega); omega
  have hn : H.slN x = (x.s.size : Nat) := by unfold HeapM.slN; rw [if_pos hx]
  have ht : okI (endN z (x.s.size : Nat)) := by unfold endN; split; exact okI_of (by have := x.hs; unfold maxLen at this; omega); exact z.hn
  rw [if_pos hx, if_pos hx, hn, ite_self, set_same_r hi]
  by_cases he : (endB y && endB z) = true
  ·
   have he' := he
   rw [Bool.and_eq_true] at he'
   have ok : H.slOk x y z = true := by unfold HeapM.slOk; rw [he]; simp [hx]
   rw [if_pos ok]
   exact sl_strs S i hi x y z hx _ _ rfl rfl hf ht he'.1 he'.2 _ rfl
  ·
   have he2 : (endB y && endB z) = false := by simpa using he
   have ok : H.slOk x y z = false := by unfold HeapM.slOk; rw [he2]; simp
   rw [if_neg (by rw [ok]; decide)]
   exact sl_w2s S i hi x y z hx _ _ _ _ rfl rfl rfl rfl he2
 ·
  have hn : H.slN x = ((H.items x).length : Nat) := by unfold HeapM.slN; rw [if_neg hx]
  have ht : okI (endN z ((H.items x).length : Nat)) := by unfold endN; split; exact okI_of (by omega); exact z.hn
  rw [if_neg hx, if_neg hx]
  by_cases hr : H.rowB x = true
  ·
   by_cases he : (endB y && endB z) = true
   ·
    have he' := he
    rw [Bool.and_eq_true] at he'
    have ok : H.slOk x y z = true := by unfold HeapM.slOk; rw [he]; simp [hr]
    rw [if_pos ok, if_pos ok]
    unfold HeapM.slObj
    rw [hn]
    exact sl_rows S i hi F.G (by omega) x y z hr _ _ rfl rfl hf ht he'.1 he'.2 _ rfl (by rw [sliceL_len]; obtain ⟨_, _, _, h4⟩ := lowN_eq (H.items x).length (endN y 0) (endN z ((H.items x).length : Nat)); omega)
   ·
    have he2 : (endB y && endB z) = false := by simpa using he
    have ok : H.slOk x y z = false := by unfold HeapM.slOk; rw [he2]; simp
    rw [if_neg (by rw [ok]; decide), if_neg (by rw [ok]; decide), set_same_r hi]
    exact sl_w2r S i hi x y z hr _ _ _ _ rfl rfl rfl rfl he2
  ·
   have hr' : H.rowB x = false := by simpa using hr
   have ok : H.slOk x y z = false := by unfold HeapM.slOk; rw [hr', decide_eq_false hx]; rfl
   rw [if_neg (by rw [ok]; decide), if_neg (by rw [ok]; decide), set_same_r hi]
   exact sl_w1 S i hi x y z hx hr'
end
end Go.Proofs.YtijlebhoapdfnaaGreat
