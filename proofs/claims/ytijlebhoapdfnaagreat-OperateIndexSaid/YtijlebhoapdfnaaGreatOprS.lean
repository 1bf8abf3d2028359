/- ch 16: SetIndex, DelIndex, in all cases. -/
import Derived.Test.YtijlebhoapdfnaaGreatIdxM
import Derived.Test.YtijlebhoapdfnaaGreatOprI
set_option maxRecDepth 100000
set_option maxHeartbeats 12800000
namespace Go.Proofs.YtijlebhoapdfnaaGreat
set_option linter.unusedSimpArgs false
open Go.RowKit
set_option linter.unusedVariables false
section
variable {w W : World} {Rs : List Res} {h : Nat} {H : HeapM}
theorem erase_at {α : Type} {l : List α} {i j : Nat} {a : α} (hne : i ≠ j) (hj : l[j]? = some a) : ∃ k : Nat, (l.eraseIdx i)[k]? = some a := by
 rcases Nat.lt_or_gt_of_ne hne with h | h
 ·
  refine ⟨j - 1, ?_⟩
  rw [List.getElem?_eraseIdx, if_neg (by omega), show j - 1 + 1 = j by omega]; exact hj
 ·
  refine ⟨j, ?_⟩
  rw [List.getElem?_eraseIdx, if_pos (by omega)]; exact hj
theorem placeP_wrap {n : Nat} {i : Int} (hn : n ≤ 9000000) (h : inP n i = true) : IntKind.i64.wrap (placeP n i + 1) = placeP n i + 1 := by
 unfold inP at h
 simp at h
 exact IntWalk.i64_in _ (by omega)
attribute [local irreducible] wpSeqS wpAnyS wpPreS
theorem set_item (S : Sep w Rs W) (i : Nat) (hi : Rs[i]? = some (heapR h H)) {p4 p5 p7 i4 i5 i7 : Nat} (h4 : Rs[i4]? = some (boxR p4 (.cells #[.pointer (some ⟨h, 0, none⟩)] 27))) (x z : V) (h5 : Rs[i5]? = some (boxR p5 (.cells #[.int .i64 x.kind, .int .i64 x.n, .string x.s] 24))) (h7 : Rs[i7]? = some (boxR p7 (.cells #[.int .i64 z.kind, .int .i64 z.n, .string z.s] 24))) (j : Int) (hj : okI j) : Calls Tryz.prog 105 #[.int .i64 j, .pointer (some ⟨p4, 0, none⟩), .pointer (some ⟨p5, 0, none⟩), .pointer (some ⟨p7, 0, none⟩)] W fun e W' => e = .returned (.tuple #[]) ∧ Sep w (Rs.set i (heapR h (H.setAt x j z))) W' := by
 have d0 := cellAt (S.box (b := p4) (i4) (by simpa using h4)) 0 (v := .pointer (some ⟨h, 0, none⟩)) rfl
 have d1 := cellAt (S.box (b := p5) (i5) (by simpa using h5)) 0 (v := .int .i64 x.kind) rfl
 have d2 := cellAt (S.box (b := p5) (i5) (by simpa using h5)) 1 (v := .int .i64 x.n) rfl
 have d3 := cellAt (S.box (b := p5) (i5) (by simpa using h5)) 2 (v := .string x.s) rfl
 have d4 := cellAt (S.box (b := p7) (i7) (by simpa using h7)) 0 (v := .int .i64 z.kind) rfl
 have d5 := cellAt (S.box (b := p7) (i7) (by simpa using h7)) 1 (v := .int .i64 z.n) rfl
 have d6 := cellAt (S.box (b := p7) (i7) (by simpa using h7)) 2 (v := .string z.s) rfl
 have M := Lib.hid (((S.setAt i hi x j z hj).mono fun e W' hh => hh : Calls Tryz.prog 106 #[.pointer (some ⟨h, 0, none⟩), .agg #[.int .i64 x.kind, .int .i64 x.n, .string x.s], .int .i64 j, .agg #[.int .i64 z.kind, .int .i64 z.n, .string z.s]] W fun e W' => e = .returned (.bool (H.inItems x j)) ∧ Sep w (Rs.set i (heapR h (H.setAt x j z))) W'))
 clear S
 go_enter Tryz.func105, Tryz.ntmps105
 go_wp2_with fail
 refine M.out.mono ?_
 rintro e w1 ⟨rfl, S⟩
 clear M d0 d1 d2 d3 d4 d5 d6
 replace S := Lib.hid S
 go_wp2
 go_returns
 exact ⟨rfl, S.out⟩
theorem del_item (S : Sep w Rs W) (i : Nat) (hi : Rs[i]? = some (heapR h H)) {N : Nat} (G : H.Good N) (hN : N ≤ 4000000) {p4 p5 i4 i5 : Nat} (h4 : Rs[i4]? = some (boxR p4 (.cells #[.pointer (some ⟨h, 0, none⟩)] 27))) (x : V) (h5 : Rs[i5]? = some (boxR p5 (.cells #[.int .i64 x.kind, .int .i64 x.n, .string x.s] 24))) (j : Int) (hj : IntKind.i64.wrap (j + 1) = j + 1) : Calls Tryz.prog 109 #[.int .i64 j, .pointer (some ⟨p4, 0, none⟩), .pointer (some ⟨p5, 0, none⟩)] W fun e W' => e = .returned (.tuple #[]) ∧ Sep w (Rs.set i (heapR h (H.replace x j (j + 1) []))) W' := by
 have d0 := cellAt (S.box (b := p4) (i4) (by simpa using h4)) 0 (v := .pointer (some ⟨h, 0, none⟩)) rfl
 have d1 := cellAt (S.box (b := p5) (i5) (by simpa using h5)) 0 (v := .int .i64 x.kind) rfl
 have d2 := cellAt (S.box (b := p5) (i5) (by simpa using h5)) 1 (v := .int .i64 x.n) rfl
 have d3 := cellAt (S.box (b := p5) (i5) (by simpa using h5)) 2 (v := .string x.s) rfl
 have M := Lib.hid (((S.replace i hi G x j (j + 1) (.slice none 0 0) [] (seesV_none W) (by simpa using hN)).mono fun e W' hh => hh : Calls Tryz.prog 43 #[.pointer (some ⟨h, 0, none⟩), .agg #[.int .i64 x.kind, .int .i64 x.n, .string x.s], .int .i64 j, .int .i64 (j + 1), .slice none 0 0] W fun e W' => e = .returned (.bool (H.canReplace x j (j + 1))) ∧ Sep w (Rs.set i (heapR h (H.replace x j (j + 1) []))) W'))
 clear S
 go_enter Tryz.func109, Tryz.ntmps109
 go_wp2_with fail
 refine M.out.mono ?_
 rintro e w1 ⟨rfl, S⟩
 clear M d0 d1 d2 d3
 replace S := Lib.hid S
 go_wp2
 go_returns
 exact ⟨rfl, S.out⟩
theorem set_pairA (S : Sep w Rs W) (i : Nat) (hi : Rs[i]? = some (heapR h H)) {p4 p5 p6 p7 i4 i5 i6 i7 : Nat} (h4 : Rs[i4]? = some (boxR p4 (.cells #[.pointer (some ⟨h, 0, none⟩)] 27))) (x y z : V) (h5 : Rs[i5]? = some (boxR p5 (.cells #[.int .i64 x.kind, .int .i64 x.n, .string x.s] 24))) (h6 : Rs[i6]? = some (boxR p6 (.cells #[.int .i64 y.kind, .int .i64 y.n, .string y.s] 24))) (h7 : Rs[i7]? = some (boxR p7 (.cells #[.int .i64 z.kind, .int .i64 z.n, .string z.s] 24))) (r : AnsM) (hr : (if H.canPut x y = true then ansV V.zero else ansN memoryError) = r) : Calls Tryz.prog 107 #[.pointer (some ⟨p4, 0, none⟩), .pointer (some ⟨p5, 0, none⟩), .pointer (some ⟨p6, 0, none⟩), .pointer (some ⟨p7, 0, none⟩)] W fun e W' => e = .returned r.exc ∧ Sep w (Rs.set i (heapR h (H.put x y z))) W' := by
 obtain ⟨ok, hok⟩ : ∃ b, H.canPut x y = b := ⟨_, rfl⟩
 rw [hok] at hr
 obtain ⟨b, hb⟩ : ∃ gx_, (W.heap.size) = gx_ := ⟨_, rfl⟩
 replace S := (S.alloc (.cells #[.string ⟨#[]⟩, .int .i64 0, .int .i64 0, .string ⟨#[]⟩, .bool false] 33))
 simp only [World.size_alloc, hb] at S
 obtain ⟨bA, hbs⟩ : ∃ l, l = Rs := ⟨_, rfl⟩
 have HBS := Lib.hid hbs
 replace S := enterP (w := w) (all := [boxE b]) (E := [boxE b]) (B := []) (Rs := Rs) S hbs (perm_of [0] (by show (List.range' 0 1).Perm [0]; decide) (by rfl))
 clear hbs
 replace S := Lib.hid S
 go_enter Tryz.func107, Tryz.ntmps107
 go_upto_region 1 with fail
 try simp only [World.size_alloc, hb]
 clear hb
 replace S := S.out
 rw [HBS.out] at S
 have d0 := cellAt (S.box (b := p4) (i4 + 1) (by simpa using h4)) 0 (v := .pointer (some ⟨h, 0, none⟩)) rfl
 have d1 := cellAt (S.box (b := p5) (i5 + 1) (by simpa using h5)) 0 (v := .int .i64 x.kind) rfl
 have d2 := cellAt (S.box (b := p5) (i5 + 1) (by simpa using h5)) 1 (v := .int .i64 x.n) rfl
 have d3 := cellAt (S.box (b := p5) (i5 + 1) (by simpa using h5)) 2 (v := .string x.s) rfl
 have d4 := cellAt (S.box (b := p6) (i6 + 1) (by simpa using h6)) 0 (v := .int .i64 y.kind) rfl
 have d5 := cellAt (S.box (b := p6) (i6 + 1) (by simpa using h6)) 1 (v := .int .i64 y.n) rfl
 have d6 := cellAt (S.box (b := p6) (i6 + 1) (by simpa using h6)) 2 (v := .string y.s) rfl
 have d7 := cellAt (S.box (b := p7) (i7 + 1) (by simpa using h7)) 0 (v := .int .i64 z.kind) rfl
 have d8 := cellAt (S.box (b := p7) (i7 + 1) (by simpa using h7)) 1 (v := .int .i64 z.n) rfl
 have d9 := cellAt (S.box (b := p7) (i7 + 1) (by simpa using h7)) 2 (v := .string z.s) rfl
 have M := Lib.hid (((S.put (i + 1) (by simpa using hi) x y z).mono fun e W' hh => (⟨by rw [hh.1, hok], hh.2⟩ : _ ∧ _) : Calls Tryz.prog 45 #[.pointer (some ⟨h, 0, none⟩), .agg #[.int .i64 x.kind, .int .i64 x.n, .string x.s], .agg #[.int .i64 y.kind, .int .i64 y.n, .string y.s], .agg #[.int .i64 z.kind, .int .i64 z.n, .string z.s]] _ fun e W' => e = .returned (.bool ok) ∧ Sep w (boxE b :: Rs.set i (heapR h (H.put x y z))) W'))
 clear S
 go_wp2_with fail
 refine M.out.mono ?_
 rintro e v1 ⟨rfl, S⟩
 clear M d0 d1 d2 d3 d4 d5 d6 d7 d8 d9
 obtain ⟨bB, hbs⟩ : ∃ l, l = Rs.set i (heapR h (H.put x y z)) := ⟨_, rfl⟩
 have HBSbB := Lib.hid hbs
 replace S : Sep w ([boxE b] ++ bB) v1 := by rw [hbs]; exact S
 clear hbs HBS
 have HBS := HBSbB
 clear HBSbB
 replace S := Lib.hid S
 clear hok
 cases ok with
 | true =>
  obtain rfl : r = ansV V.zero := by rw [← hr]; rfl
  go_upto_region 3 with fail
  refine regionL (E := [boxE b]) (base := bB) S.out ?_
  clear S
  refine qa ?_
  refine qd undef [boxE b] (h1 := fun Wx hSw => by (have hz := hSw.box (b := b) (o := objE) 0 rfl; refine useZ5 hz fun z0 z1 z2 z3 z4 y0 y1 y2 y3 y4 => ?_; go_simp; exact ⟨rfl, hSw.set5 0 rfl (.string ⟨#[]⟩) (.int .i64 0) (.int .i64 0) (.string ⟨#[]⟩) (.bool false)⟩)) (h2 := ?_)
  refine doneL (h := fun w2 S => ?_)
  refine useR5 (S.box (b := b) (o := objE) 0 rfl) fun r0 r1 r2 r3 r4 => ?_
  replace S := Lib.hid S
  repeat (first | go_values | go_skip | go_guarded | go_step)
  refine bodyPost_ret (v := excZ) ?_ ?_ ?_
  ·
   simp [results, Tryz.results107, go_sem, r0, r1, r2, r3, r4]
  ·
   rfl
  refine ⟨rfl, ?_⟩
  replace S := S.out
  rw [HBS.out] at S
  exact S.tail
 | false =>
  obtain rfl : r = ansN memoryError := by rw [← hr]; rfl
  have KQ : QuietC w bB 87 #[.string memoryError] (excN memoryError) := Lib.hid fun W Q T => by
   exact (raise_ok W _).mono fun e W' ⟨e1, e2⟩ => ⟨e1, T.later e2⟩
  go_upto_region 2 with fail
  refine regionL (E := [boxE b]) (base := bB) S.out ?_
  clear S
  refine qk KQ ?_
  refine qd undef [boxN b memoryError] (h1 := fun Wx hSw => by (have hz := hSw.box (b := b) (o := objE) 0 rfl; refine useZ5 hz fun z0 z1 z2 z3 z4 y0 y1 y2 y3 y4 => ?_; go_simp; exact ⟨rfl, hSw.set5 0 rfl (.string memoryError) (.int .i64 0) (.int .i64 0) (.string ⟨#[]⟩) (.bool false)⟩)) (h2 := ?_)
  refine doneL (h := fun w3 S => ?_)
  refine useR5 (S.box (b := b) (o := objN memoryError) 0 rfl) fun r0 r1 r2 r3 r4 => ?_
  replace S := Lib.hid S
  repeat (first | go_values | go_skip | go_guarded | go_step)
  refine bodyPost_ret (v := excN memoryError) ?_ ?_ ?_
  ·
   simp [results, Tryz.results107, go_sem, r0, r1, r2, r3, r4]
  ·
   rfl
  refine ⟨rfl, ?_⟩
  replace S := S.out
  rw [HBS.out] at S
  exact S.tail
theorem del_pairA (S : Sep w Rs W) (i : Nat) (hi : Rs[i]? = some (heapR h H)) {p4 p5 p6 i4 i5 i6 : Nat} (h4 : Rs[i4]? = some (boxR p4 (.cells #[.pointer (some ⟨h, 0, none⟩)] 27))) (x y : V) (h5 : Rs[i5]? = some (boxR p5 (.cells #[.int .i64 x.kind, .int .i64 x.n, .string x.s] 24))) (h6 : Rs[i6]? = some (boxR p6 (.cells #[.int .i64 y.kind, .int .i64 y.n, .string y.s] 24))) (hne : i ≠ i6) (r : AnsM) (hr : (if H.has x y = true then ansV V.zero else ansK y) = r) : Calls Tryz.prog 110 #[.pointer (some ⟨p4, 0, none⟩), .pointer (some ⟨p5, 0, none⟩), .pointer (some ⟨p6, 0, none⟩)] W fun e W' => e = .returned r.exc ∧ Sep w (Rs.set i (heapR h (H.del x y))) W' := by
 obtain ⟨ok, hok⟩ : ∃ b, H.has x y = b := ⟨_, rfl⟩
 rw [hok] at hr
 obtain ⟨b, hb⟩ : ∃ gx_, (W.heap.size) = gx_ := ⟨_, rfl⟩
 replace S := (S.alloc (.cells #[.string ⟨#[]⟩, .int .i64 0, .int .i64 0, .string ⟨#[]⟩, .bool false] 33))
 simp only [World.size_alloc, hb] at S
 obtain ⟨bA, hbs⟩ : ∃ l, l = Rs := ⟨_, rfl⟩
 have HBS := Lib.hid hbs
 replace S := enterP (w := w) (all := [boxE b]) (E := [boxE b]) (B := []) (Rs := Rs) S hbs (perm_of [0] (by show (List.range' 0 1).Perm [0]; decide) (by rfl))
 clear hbs
 replace S := Lib.hid S
 go_enter Tryz.func110, Tryz.ntmps110
 go_upto_region 1 with fail
 try simp only [World.size_alloc, hb]
 clear hb
 replace S := S.out
 rw [HBS.out] at S
 have d0 := cellAt (S.box (b := p4) (i4 + 1) (by simpa using h4)) 0 (v := .pointer (some ⟨h, 0, none⟩)) rfl
 have d1 := cellAt (S.box (b := p5) (i5 + 1) (by simpa using h5)) 0 (v := .int .i64 x.kind) rfl
 have d2 := cellAt (S.box (b := p5) (i5 + 1) (by simpa using h5)) 1 (v := .int .i64 x.n) rfl
 have d3 := cellAt (S.box (b := p5) (i5 + 1) (by simpa using h5)) 2 (v := .string x.s) rfl
 have d4 := cellAt (S.box (b := p6) (i6 + 1) (by simpa using h6)) 0 (v := .int .i64 y.kind) rfl
 have d5 := cellAt (S.box (b := p6) (i6 + 1) (by simpa using h6)) 1 (v := .int .i64 y.n) rfl
 have d6 := cellAt (S.box (b := p6) (i6 + 1) (by simpa using h6)) 2 (v := .string y.s) rfl
 have M := Lib.hid (((S.del (i + 1) (by simpa using hi) x y).mono fun e W' hh => (⟨by rw [hh.1, hok], hh.2⟩ : _ ∧ _) : Calls Tryz.prog 111 #[.pointer (some ⟨h, 0, none⟩), .agg #[.int .i64 x.kind, .int .i64 x.n, .string x.s], .agg #[.int .i64 y.kind, .int .i64 y.n, .string y.s]] _ fun e W' => e = .returned (.bool ok) ∧ Sep w (boxE b :: Rs.set i (heapR h (H.del x y))) W'))
 clear S
 go_wp2_with fail
 refine M.out.mono ?_
 rintro e v1 ⟨rfl, S⟩
 clear M d0 d1 d2 d3 d4 d5 d6
 obtain ⟨bB, hbs⟩ : ∃ l, l = Rs.set i (heapR h (H.del x y)) := ⟨_, rfl⟩
 have HBSbB := Lib.hid hbs
 replace S : Sep w ([boxE b] ++ bB) v1 := by rw [hbs]; exact S
 clear hbs HBS
 have HBS := HBSbB
 clear HBSbB
 replace S := Lib.hid S
 clear hok
 cases ok with
 | true =>
  obtain rfl : r = ansV V.zero := by rw [← hr]; rfl
  go_upto_region 3 with fail
  refine regionL (E := [boxE b]) (base := bB) S.out ?_
  clear S
  refine qa ?_
  refine qd undef [boxE b] (h1 := fun Wx hSw => by (have hz := hSw.box (b := b) (o := objE) 0 rfl; refine useZ5 hz fun z0 z1 z2 z3 z4 y0 y1 y2 y3 y4 => ?_; go_simp; exact ⟨rfl, hSw.set5 0 rfl (.string ⟨#[]⟩) (.int .i64 0) (.int .i64 0) (.string ⟨#[]⟩) (.bool false)⟩)) (h2 := ?_)
  refine doneL (h := fun w2 S => ?_)
  refine useR5 (S.box (b := b) (o := objE) 0 rfl) fun r0 r1 r2 r3 r4 => ?_
  replace S := Lib.hid S
  repeat (first | go_values | go_skip | go_guarded | go_step)
  refine bodyPost_ret (v := excZ) ?_ ?_ ?_
  ·
   simp [results, Tryz.results110, go_sem, r0, r1, r2, r3, r4]
  ·
   rfl
  refine ⟨rfl, ?_⟩
  replace S := S.out
  rw [HBS.out] at S
  exact S.tail
 | false =>
  obtain rfl : r = ansK y := by rw [← hr]; rfl
  have KO : QuietC w bB 90 #[agV y] (.agg #[.string keyError, .int .i64 y.kind, .int .i64 y.n, .string y.s, .bool true]) := Lib.hid fun W Q T => by
   exact lost_ok T y
  have C6 : Hid (∀ W (Q : List Res), Sep w (Q ++ bB) W → W.cell? ⟨p6, 0, none⟩ = some (.int .i64 y.kind) ∧ W.cell? ⟨p6, 1, none⟩ = some (.int .i64 y.n) ∧ W.cell? ⟨p6, 2, none⟩ = some (.string y.s)) := Lib.hid fun W Q T => by
   rw [HBS.out] at T
   have i0 := T.box (b := p6) (o := objV y) (Q.length + i6) (by rw [List.getElem?_append_right (by omega), Nat.add_sub_cancel_left, List.getElem?_set_ne hne]; exact h6)
   exact ⟨cellAt i0 0 rfl, cellAt i0 1 rfl, cellAt i0 2 rfl⟩
  go_upto_region 2 with fail
  refine regionL (E := [boxE b]) (base := bB) S.out ?_
  clear S
  refine qc C6 ?_
  refine qk KO ?_
  refine qd undef [boxX b keyError y.kind y.n y.s true] (h1 := fun Wx hSw => by (have hz := hSw.box (b := b) (o := objE) 0 rfl; refine useZ5 hz fun z0 z1 z2 z3 z4 y0 y1 y2 y3 y4 => ?_; go_simp; exact ⟨rfl, hSw.set5 0 rfl (.string keyError) (.int .i64 y.kind) (.int .i64 y.n) (.string y.s) (.bool true)⟩)) (h2 := ?_)
  refine doneL (h := fun w3 S => ?_)
  refine useR5 (S.box (b := b) (o := objX keyError y.kind y.n y.s true) 0 rfl) fun r0 r1 r2 r3 r4 => ?_
  replace S := Lib.hid S
  repeat (first | go_values | go_skip | go_guarded | go_step)
  refine bodyPost_ret (v := .agg #[.string keyError, .int .i64 y.kind, .int .i64 y.n, .string y.s, .bool true]) ?_ ?_ ?_
  ·
   simp [results, Tryz.results110, go_sem, r0, r1, r2, r3, r4]
  ·
   rfl
  refine ⟨rfl, ?_⟩
  replace S := S.out
  rw [HBS.out] at S
  exact S.tail
theorem chg_setA (S : Sep w Rs W) (i : Nat) (hi : Rs[i]? = some (heapR h H)) {N : Nat} (G : H.Good N) (hN : N ≤ 4000000) (x y z : V) {p4 p5 p6 p7 i4 i5 i6 i7 : Nat} (h4 : Rs[i4]? = some (boxR p4 (.cells #[.pointer (some ⟨h, 0, none⟩)] 27)))(h5 : Rs[i5]? = some (boxR p5 (.cells #[.int .i64 x.kind, .int .i64 x.n, .string x.s] 24)))(h6 : Rs[i6]? = some (boxR p6 (.cells #[.int .i64 y.kind, .int .i64 y.n, .string y.s] 24)))(h7 : Rs[i7]? = some (boxR p7 (.cells #[.int .i64 z.kind, .int .i64 z.n, .string z.s] 24)))(n4 : i ≠ i4) (n5 : i ≠ i5) (n6 : i ≠ i6) (n7 : i ≠ i7)(r : AnsM) (hr : H.siE x y = r) (H1 : HeapM) (hh1 : H.siH x y z = H1) : Calls Tryz.prog 104 #[.pointer (some ⟨h, 0, none⟩), .agg #[.int .i64 x.kind, .int .i64 x.n, .string x.s], .agg #[.int .i64 y.kind, .int .i64 y.n, .string y.s], .func (.func 105) #[] #[.pointer (some ⟨p4, 0, none⟩), .pointer (some ⟨p5, 0, none⟩), .pointer (some ⟨p7, 0, none⟩)], .func (.func 107) #[] #[.pointer (some ⟨p4, 0, none⟩), .pointer (some ⟨p5, 0, none⟩), .pointer (some ⟨p6, 0, none⟩), .pointer (some ⟨p7, 0, none⟩)]] W fun e W' => e = .returned r.exc ∧ Sep w (Rs.set i (heapR h H1)) W' := by
 have HR := Lib.hid hr
 have HH1 := Lib.hid hh1
 clear hr hh1
 obtain ⟨X1, hX1⟩ : ∃ zz_, H.items x = zz_ := ⟨_, rfl⟩
 have HX1_ := Lib.hid hX1
 clear hX1
 obtain ⟨kx, hkx⟩ : ∃ zz_, H.kind x = zz_ := ⟨_, rfl⟩
 have Hkx_ := Lib.hid hkx
 clear hkx
 obtain ⟨ky, hky⟩ : ∃ zz_, y.isKey = zz_ := ⟨_, rfl⟩
 have Hky_ := Lib.hid hky
 clear hky
 have HL : Hid (X1.length ≤ 4000000) := Lib.hid (by rw [← HX1_.out]; have := G.items x; omega)
 obtain ⟨p, hp⟩ : ∃ b, decide (kx = 1 ∧ y.kind = 2) = b := ⟨_, rfl⟩
 have HP_ := Lib.hid hp
 clear hp
 obtain ⟨d, hd⟩ : ∃ b, decide (kx = 3 ∧ ky = true) = b := ⟨_, rfl⟩
 have HD := Lib.hid hd
 clear hd
 obtain ⟨b, hb⟩ : ∃ gx_, (W.heap.size) = gx_ := ⟨_, rfl⟩
 replace S := (((S.alloc (.cells #[.int .i64 x.kind, .int .i64 x.n, .string x.s] 24)).alloc (.cells #[.int .i64 y.kind, .int .i64 y.n, .string y.s] 24)).alloc (.cells #[.string ⟨#[]⟩, .int .i64 0, .int .i64 0, .string ⟨#[]⟩, .bool false] 33))
 simp only [World.size_alloc, hb] at S
 obtain ⟨Rt, hRt⟩ : ∃ l, l = Rs.eraseIdx i := ⟨_, rfl⟩
 have HF : Hid (∀ H' W', Sep w (heapR h H' :: Rt) W' → Sep w (Rs.set i (heapR h H')) W') := Lib.hid fun H' W' T => by rw [hRt] at T; exact T.perm (perm_push hi).symm
 obtain ⟨bA, hbs⟩ : ∃ l, l = boxV (b + 1) y :: boxV b x :: Rt := ⟨_, rfl⟩
 have HBS := Lib.hid hbs
 replace S := enterQ (w := w) (all := [boxE (b + 1 + 1), boxV (b + 1) y, boxV b x]) (E := [boxE (b + 1 + 1), heapR h H]) (B := [boxV (b + 1) y, boxV b x]) (Rs := Rs) S hRt hi hbs (perm_of [0, 3, 1, 2] (by show (List.range' 0 4).Perm [0, 3, 1, 2]; decide) (by rfl))
 obtain ⟨k4, g4⟩ : ∃ k : Nat, Rt[k]? = some (boxR p4 (.cells #[.pointer (some ⟨h, 0, none⟩)] 27)) := by rw [hRt]; exact erase_at n4 h4
 obtain ⟨k5, g5⟩ : ∃ k : Nat, Rt[k]? = some (boxV p5 x) := by rw [hRt]; exact erase_at n5 h5
 obtain ⟨k6, g6⟩ : ∃ k : Nat, Rt[k]? = some (boxV p6 y) := by rw [hRt]; exact erase_at n6 h6
 obtain ⟨k7, g7⟩ : ∃ k : Nat, Rt[k]? = some (boxV p7 z) := by rw [hRt]; exact erase_at n7 h7
 clear hRt
 have C1 := baseC3 (w := w) (b := b + 1) hbs 0 rfl
 have C0 := baseC3 (w := w) (b := b) hbs 1 rfl
 clear hbs
 replace S := Lib.hid S
 go_enter Tryz.func104, Tryz.ntmps104
 go_upto_region 1 with fail
 try simp only [World.size_alloc, hb]
 clear hb
 go_upto_region 1 with fail
 go_cut [13] (fun s13 wx => s13 = .bool p ∧ Sep w ([boxE (b + 1 + 1), heapR h H] ++ bA) wx)
 case first =>
  by_cases h3 : kx = 1
  ·
   have e1 : (kx == 1) = true := by simp [h3]
   obtain ⟨q, hq⟩ : ∃ b, b = (y.kind == 2) := ⟨_, rfl⟩
   have HQ := Lib.hid hq
   obtain rfl : p = q := by rw [hq, ← HP_.out]; simp [h3]; rfl
   clear hq h3
   refine regionL (E := [boxE (b + 1 + 1), heapR h H]) (base := bA) S.out ?_
   clear S
   refine qa ?_
   refine qc C0 ?_
   refine qd (.int .i64 kx) [boxE (b + 1 + 1), heapR h H] (h1 := fun Wx hSw => by (go_simp; refine symCall ?_; exact kind_at hSw 1 rfl x kx Hkx_.out)) (h2 := ?_)
   iterate 3 refine qa ?_
   refine qc C1 ?_
   refine qa (v := .bool p) (hy := fun E Wx hSw => by (go_simp; rw [HQ.out]; exact ⟨rfl, hSw⟩)) (h := ?_)
   iterate 2 refine qa ?_
   refine doneL (h := fun w1 S => ?_)
   replace S := Lib.hid S
   go_wp2_with fail
   go_meet
   exact ⟨rfl, S.out⟩
  ·
   have e1 : (kx == 1) = false := by simp [h3]
   obtain rfl : p = false := by rw [← HP_.out]; simp [h3]
   clear h3
   refine regionL (E := [boxE (b + 1 + 1), heapR h H]) (base := bA) S.out ?_
   clear S
   refine qa ?_
   refine qc C0 ?_
   refine qd (.int .i64 kx) [boxE (b + 1 + 1), heapR h H] (h1 := fun Wx hSw => by (go_simp; refine symCall ?_; exact kind_at hSw 1 rfl x kx Hkx_.out)) (h2 := ?_)
   iterate 2 refine qa ?_
   iterate 3 refine qz ?_
   iterate 2 refine qa ?_
   refine doneL (h := fun w2 S => ?_)
   replace S := Lib.hid S
   go_wp2_with fail
   go_meet
   exact ⟨rfl, S.out⟩
 case rest =>
  obtain ⟨rfl, S⟩ := hcut
  replace S := Lib.hid S
  cases p with
  | true =>
   obtain ⟨hk1, hy2⟩ : kx = 1 ∧ y.kind = 2 := by simpa using HP_.out
   have hx1 : H.kind x = 1 := by rw [Hkx_.out]; exact hk1
   obtain ⟨ok, hok⟩ : ∃ b, inP X1.length y.n = b := ⟨_, rfl⟩
   obtain ⟨j, hj⟩ : ∃ j, placeP X1.length y.n = j := ⟨_, rfl⟩
   have hc : H.kind x = 1 ∧ y.kind = 2 := ⟨hx1, hy2⟩
   have hv1 : ok = true → r = ansV V.zero ∧ H1 = H.setAt x j z := fun e => by rw [← HR.out, ← HH1.out, ← hj]; unfold HeapM.siE HeapM.siH; rw [if_pos hc, if_pos hc, HX1_.out, hok, if_pos e, if_pos e]; exact ⟨rfl, rfl⟩
   have hv0 : ok = false → r = ansN indexError ∧ H = H1 := fun e => by subst e; rw [← HR.out, ← HH1.out]; unfold HeapM.siE HeapM.siH; rw [if_pos hc, if_pos hc, HX1_.out, hok]; exact ⟨rfl, rfl⟩
   have hjo : okI j := by rw [← hj]; exact okI_place (by have := HL.out; omega) y.hn
   have hjw : ok = true → IntKind.i64.wrap (j + 1) = j + 1 := fun e => by rw [← hj]; exact placeP_wrap (by have := HL.out; omega) (by rw [hok]; exact e)
   have Xhok := Lib.hid hok
   have Xhj := Lib.hid hj
   have Xhv1 := Lib.hid hv1
   have Xhv0 := Lib.hid hv0
   have Xhjo := Lib.hid hjo
   have Xhjw := Lib.hid hjw
   clear hok hj hv1 hv0 hjo hjw hx1 hk1 hy2 hc
   have KP : QuietC w bA 85 #[.int .i64 X1.length, .int .i64 y.n] (.tuple #[.int .i64 j, .bool ok]) := Lib.hid fun W Q T => by
    have hh := place_ok W X1.length y.n (by have := HL.out; omega) y.hn
    rw [Xhok.out, Xhj.out] at hh
    exact hh.mono fun e W' ⟨e1, e2⟩ => ⟨e1, by rw [e2]; exact T⟩
   go_upto_region 2 with fail
   refine regionP 2 9 (E := [boxE (b + 1 + 1), heapR h H]) (base := bA) S.out ?_
   clear S
   refine qp ?_
   refine qpc C0 ?_
   refine endP ?_
   refine qs 3 ?_
   refine qsc 4 C1 ?_
   refine readyS [2] ?_
   refine detS (.int .i64 X1.length) [boxE (b + 1 + 1), heapR h H] (h1 := fun Wx hSw => by (go_simp; refine symCall ?_; exact len_at hSw 1 rfl x X1.length (by rw [HX1_.out]))) (h2 := ?_) (hs := nilS); simp only [Act.put, pa]; try dsimp only [List.set]
   refine qsk 5 KP ?_
   refine qs 6 ?_
   refine qs 7 ?_
   refine qs 8 ?_
   refine qs 9 ?_
   refine qs 10 ?_
   refine doneS (h := fun w3 S => ?_)
   replace S := Lib.hid S
   cases ok with
   | true =>
    obtain ⟨rfl, hh⟩ := Xhv1.out rfl
    have HH := Lib.hid hh
    clear hh
    go_upto_region 5 with fail
    refine regionL (E := [boxE (b + 1 + 1), heapR h H]) (base := bA) S.out ?_
    clear S
    iterate 2 refine qa ?_
    refine qd (.tuple #[]) [boxE (b + 1 + 1), heapR h H1] (h1 := fun Wx hSw => by (go_simp; refine symCall ?_; rw [HBS.out] at hSw ⊢; rw [HH.out]; exact set_item hSw 1 (by rfl) (i4 := k4 + 4) (i5 := k5 + 4) (i7 := k7 + 4) (by simpa using g4) x z (by simpa using g5) (by simpa using g7) j Xhjo.out)) (h2 := ?_)
    refine doneL (h := fun w4 S => ?_)
    replace S := Lib.hid S
    go_upto_region 6 with fail
    refine regionL (E := [boxE (b + 1 + 1), heapR h H1]) (base := bA) S.out ?_
    clear S
    refine qa ?_
    refine qd undef [boxE (b + 1 + 1), heapR h H1] (h1 := fun Wx hSw => by (have hz := hSw.box (b := (b + 1 + 1)) (o := objE) 0 rfl; refine useZ5 hz fun z0 z1 z2 z3 z4 y0 y1 y2 y3 y4 => ?_; go_simp; exact ⟨rfl, hSw.set5 0 rfl (.string ⟨#[]⟩) (.int .i64 0) (.int .i64 0) (.string ⟨#[]⟩) (.bool false)⟩)) (h2 := ?_)
    refine doneL (h := fun w5 S => ?_)
    refine useR5 (S.box (b := b + 1 + 1) (o := objE) 0 rfl) fun r0 r1 r2 r3 r4 => ?_
    replace S := Lib.hid S
    repeat (first | go_values | go_skip | go_guarded | go_step)
    refine bodyPost_ret (v := excZ) ?_ ?_ ?_
    ·
     simp [results, Tryz.results104, go_sem, r0, r1, r2, r3, r4]
    ·
     rfl
    refine ⟨rfl, ?_⟩
    replace S := S.out
    rw [HBS.out] at S
    exact HF.out _ _ (S.sub (Qs := heapR h (H1) :: Rt) (.cons _ (.cons_cons _ (.cons _ (.cons _ (List.Sublist.refl _))))))
   | false =>
    obtain ⟨rfl, rfl⟩ := Xhv0.out rfl
    have KE : QuietC w bA 87 #[.string indexError] (excN indexError) := Lib.hid fun W Q T => by
     exact (raise_ok W _).mono fun e W' ⟨e1, e2⟩ => ⟨e1, T.later e2⟩
    go_upto_region 4 with fail
    refine regionL (E := [boxE (b + 1 + 1), heapR h H]) (base := bA) S.out ?_
    clear S
    refine qk KE ?_
    refine qd undef [boxN (b + 1 + 1) indexError, heapR h H] (h1 := fun Wx hSw => by (have hz := hSw.box (b := (b + 1 + 1)) (o := objE) 0 rfl; refine useZ5 hz fun z0 z1 z2 z3 z4 y0 y1 y2 y3 y4 => ?_; go_simp; exact ⟨rfl, hSw.set5 0 rfl (.string indexError) (.int .i64 0) (.int .i64 0) (.string ⟨#[]⟩) (.bool false)⟩)) (h2 := ?_)
    refine doneL (h := fun w6 S => ?_)
    refine useR5 (S.box (b := b + 1 + 1) (o := objN indexError) 0 rfl) fun r0 r1 r2 r3 r4 => ?_
    replace S := Lib.hid S
    repeat (first | go_values | go_skip | go_guarded | go_step)
    refine bodyPost_ret (v := excN indexError) ?_ ?_ ?_
    ·
     simp [results, Tryz.results104, go_sem, r0, r1, r2, r3, r4]
    ·
     rfl
    refine ⟨rfl, ?_⟩
    replace S := S.out
    rw [HBS.out] at S
    exact HF.out _ _ (S.sub (Qs := heapR h (H) :: Rt) (.cons _ (.cons_cons _ (.cons _ (.cons _ (List.Sublist.refl _))))))
  | false =>
   have HNP : Hid (¬ (H.kind x = 1 ∧ y.kind = 2)) := Lib.hid (by rw [Hkx_.out]; simpa using HP_.out)
   have KY : QuietC w bA 89 #[agV y] (.bool ky) := Lib.hid fun W Q T => by
    have hh := dict_key W y
    rw [Hky_.out] at hh
    exact hh.mono fun e W' ⟨e1, e2⟩ => ⟨e1, T.later e2⟩
   go_upto_region 7 with fail
   go_cut [39] (fun s39 wx => s39 = .bool d ∧ Sep w ([boxE (b + 1 + 1), heapR h H] ++ bA) wx)
   case first =>
    by_cases h3 : kx = 3
    ·
     have e1 : (kx == 3) = true := by simp [h3]
     obtain rfl : d = ky := by rw [← HD.out]; simp [h3]
     clear h3
     refine regionL (E := [boxE (b + 1 + 1), heapR h H]) (base := bA) S.out ?_
     clear S
     refine qa ?_
     refine qc C0 ?_
     refine qd (.int .i64 kx) [boxE (b + 1 + 1), heapR h H] (h1 := fun Wx hSw => by (go_simp; refine symCall ?_; exact kind_at hSw 1 rfl x kx Hkx_.out)) (h2 := ?_)
     iterate 2 refine qa ?_
     refine qc C1 ?_
     refine qk KY ?_
     iterate 2 refine qa ?_
     refine doneL (h := fun w7 S => ?_)
     replace S := Lib.hid S
     go_wp2_with fail
     go_meet
     exact ⟨rfl, S.out⟩
    ·
     have e1 : (kx == 3) = false := by simp [h3]
     obtain rfl : d = false := by rw [← HD.out]; simp [h3]
     clear h3
     refine regionL (E := [boxE (b + 1 + 1), heapR h H]) (base := bA) S.out ?_
     clear S
     refine qa ?_
     refine qc C0 ?_
     refine qd (.int .i64 kx) [boxE (b + 1 + 1), heapR h H] (h1 := fun Wx hSw => by (go_simp; refine symCall ?_; exact kind_at hSw 1 rfl x kx Hkx_.out)) (h2 := ?_)
     iterate 2 refine qa ?_
     iterate 2 refine qz ?_
     iterate 2 refine qa ?_
     refine doneL (h := fun w8 S => ?_)
     replace S := Lib.hid S
     go_wp2_with fail
     go_meet
     exact ⟨rfl, S.out⟩
   case rest =>
    obtain ⟨rfl, S⟩ := hcut
    replace S := Lib.hid S
    cases d with
    | true =>
     have hc : H.kind x = 3 ∧ y.isKey = true := by rw [Hkx_.out, Hky_.out]; simpa using HD.out
     have hv : (if H.canPut x y = true then ansV V.zero else ansN memoryError) = r := by rw [← HR.out]; unfold HeapM.siE; rw [if_neg HNP.out, if_pos hc]
     have hh : H1 = H.put x y z := by rw [← HH1.out]; unfold HeapM.siH; rw [if_neg HNP.out, if_pos hc]
     have HV := Lib.hid hv
     have HH := Lib.hid hh
     clear hv hh hc
     go_upto_region 8 with fail
     refine regionL (E := [boxE (b + 1 + 1), heapR h H]) (base := bA) S.out ?_
     clear S
     refine qa ?_
     refine qd (.agg #[.string r.nm, .int .i64 r.ar.kind, .int .i64 r.ar.n, .string r.ar.s, .bool r.has]) [boxE (b + 1 + 1), heapR h H1] (h1 := fun Wx hSw => by (go_simp; refine symCall ?_; rw [HBS.out] at hSw ⊢; rw [HH.out]; exact set_pairA hSw 1 (by rfl) (i4 := k4 + 4) (i5 := k5 + 4) (i6 := k6 + 4) (i7 := k7 + 4) (by simpa using g4) x y z (by simpa using g5) (by simpa using g6) (by simpa using g7) r HV.out)) (h2 := ?_)
     refine qd undef [boxX (b + 1 + 1) r.nm r.ar.kind r.ar.n r.ar.s r.has, heapR h H1] (h1 := fun Wx hSw => by (have hz := hSw.box (b := (b + 1 + 1)) (o := objE) 0 rfl; refine useZ5 hz fun z0 z1 z2 z3 z4 y0 y1 y2 y3 y4 => ?_; go_simp; exact ⟨rfl, hSw.set5 0 rfl (.string r.nm) (.int .i64 r.ar.kind) (.int .i64 r.ar.n) (.string r.ar.s) (.bool r.has)⟩)) (h2 := ?_)
     refine doneL (h := fun w9 S => ?_)
     refine useR5 (S.box (b := b + 1 + 1) (o := objX r.nm r.ar.kind r.ar.n r.ar.s r.has) 0 rfl) fun r0 r1 r2 r3 r4 => ?_
     replace S := Lib.hid S
     repeat (first | go_values | go_skip | go_guarded | go_step)
     refine bodyPost_ret (v := .agg #[.string r.nm, .int .i64 r.ar.kind, .int .i64 r.ar.n, .string r.ar.s, .bool r.has]) ?_ ?_ ?_
     ·
      simp [results, Tryz.results104, go_sem, r0, r1, r2, r3, r4]
     ·
      rfl
     refine ⟨rfl, ?_⟩
     replace S := S.out
     rw [HBS.out] at S
     exact HF.out _ _ (S.sub (Qs := heapR h (H1) :: Rt) (.cons _ (.cons_cons _ (.cons _ (.cons _ (List.Sublist.refl _))))))
    | false =>
     have hnd : ¬ (H.kind x = 3 ∧ y.isKey = true) := by rw [Hkx_.out, Hky_.out]; simpa using HD.out
     obtain rfl : r = ansN typeError := by rw [← HR.out]; unfold HeapM.siE; rw [if_neg HNP.out, if_neg hnd]
     obtain rfl : H = H1 := by rw [← HH1.out]; unfold HeapM.siH; rw [if_neg HNP.out, if_neg hnd]
     clear hnd
     have KE : QuietC w bA 87 #[.string typeError] (excN typeError) := Lib.hid fun W Q T => by
      exact (raise_ok W _).mono fun e W' ⟨e1, e2⟩ => ⟨e1, T.later e2⟩
     go_upto_region 9 with fail
     refine regionL (E := [boxE (b + 1 + 1), heapR h H]) (base := bA) S.out ?_
     clear S
     refine qk KE ?_
     refine qd undef [boxN (b + 1 + 1) typeError, heapR h H] (h1 := fun Wx hSw => by (have hz := hSw.box (b := (b + 1 + 1)) (o := objE) 0 rfl; refine useZ5 hz fun z0 z1 z2 z3 z4 y0 y1 y2 y3 y4 => ?_; go_simp; exact ⟨rfl, hSw.set5 0 rfl (.string typeError) (.int .i64 0) (.int .i64 0) (.string ⟨#[]⟩) (.bool false)⟩)) (h2 := ?_)
     refine doneL (h := fun w10 S => ?_)
     refine useR5 (S.box (b := b + 1 + 1) (o := objN typeError) 0 rfl) fun r0 r1 r2 r3 r4 => ?_
     replace S := Lib.hid S
     repeat (first | go_values | go_skip | go_guarded | go_step)
     refine bodyPost_ret (v := excN typeError) ?_ ?_ ?_
     ·
      simp [results, Tryz.results104, go_sem, r0, r1, r2, r3, r4]
     ·
      rfl
     refine ⟨rfl, ?_⟩
     replace S := S.out
     rw [HBS.out] at S
     exact HF.out _ _ (S.sub (Qs := heapR h (H) :: Rt) (.cons _ (.cons_cons _ (.cons _ (.cons _ (List.Sublist.refl _))))))
theorem chg_delA (S : Sep w Rs W) (i : Nat) (hi : Rs[i]? = some (heapR h H)) {N : Nat} (G : H.Good N) (hN : N ≤ 4000000) (x y : V) {p4 p5 p6 i4 i5 i6 : Nat} (h4 : Rs[i4]? = some (boxR p4 (.cells #[.pointer (some ⟨h, 0, none⟩)] 27)))(h5 : Rs[i5]? = some (boxR p5 (.cells #[.int .i64 x.kind, .int .i64 x.n, .string x.s] 24)))(h6 : Rs[i6]? = some (boxR p6 (.cells #[.int .i64 y.kind, .int .i64 y.n, .string y.s] 24)))(n4 : i ≠ i4) (n5 : i ≠ i5) (n6 : i ≠ i6)(r : AnsM) (hr : H.diE x y = r) (H1 : HeapM) (hh1 : H.diH x y = H1) : Calls Tryz.prog 104 #[.pointer (some ⟨h, 0, none⟩), .agg #[.int .i64 x.kind, .int .i64 x.n, .string x.s], .agg #[.int .i64 y.kind, .int .i64 y.n, .string y.s], .func (.func 109) #[] #[.pointer (some ⟨p4, 0, none⟩), .pointer (some ⟨p5, 0, none⟩)], .func (.func 110) #[] #[.pointer (some ⟨p4, 0, none⟩), .pointer (some ⟨p5, 0, none⟩), .pointer (some ⟨p6, 0, none⟩)]] W fun e W' => e = .returned r.exc ∧ Sep w (Rs.set i (heapR h H1)) W' := by
 have HR := Lib.hid hr
 have HH1 := Lib.hid hh1
 clear hr hh1
 obtain ⟨X1, hX1⟩ : ∃ zz_, H.items x = zz_ := ⟨_, rfl⟩
 have HX1_ := Lib.hid hX1
 clear hX1
 obtain ⟨kx, hkx⟩ : ∃ zz_, H.kind x = zz_ := ⟨_, rfl⟩
 have Hkx_ := Lib.hid hkx
 clear hkx
 obtain ⟨ky, hky⟩ : ∃ zz_, y.isKey = zz_ := ⟨_, rfl⟩
 have Hky_ := Lib.hid hky
 clear hky
 have HL : Hid (X1.length ≤ 4000000) := Lib.hid (by rw [← HX1_.out]; have := G.items x; omega)
 obtain ⟨p, hp⟩ : ∃ b, decide (kx = 1 ∧ y.kind = 2) = b := ⟨_, rfl⟩
 have HP_ := Lib.hid hp
 clear hp
 obtain ⟨d, hd⟩ : ∃ b, decide (kx = 3 ∧ ky = true) = b := ⟨_, rfl⟩
 have HD := Lib.hid hd
 clear hd
 obtain ⟨b, hb⟩ : ∃ gx_, (W.heap.size) = gx_ := ⟨_, rfl⟩
 replace S := (((S.alloc (.cells #[.int .i64 x.kind, .int .i64 x.n, .string x.s] 24)).alloc (.cells #[.int .i64 y.kind, .int .i64 y.n, .string y.s] 24)).alloc (.cells #[.string ⟨#[]⟩, .int .i64 0, .int .i64 0, .string ⟨#[]⟩, .bool false] 33))
 simp only [World.size_alloc, hb] at S
 obtain ⟨Rt, hRt⟩ : ∃ l, l = Rs.eraseIdx i := ⟨_, rfl⟩
 have HF : Hid (∀ H' W', Sep w (heapR h H' :: Rt) W' → Sep w (Rs.set i (heapR h H')) W') := Lib.hid fun H' W' T => by rw [hRt] at T; exact T.perm (perm_push hi).symm
 obtain ⟨bA, hbs⟩ : ∃ l, l = boxV (b + 1) y :: boxV b x :: Rt := ⟨_, rfl⟩
 have HBS := Lib.hid hbs
 replace S := enterQ (w := w) (all := [boxE (b + 1 + 1), boxV (b + 1) y, boxV b x]) (E := [boxE (b + 1 + 1), heapR h H]) (B := [boxV (b + 1) y, boxV b x]) (Rs := Rs) S hRt hi hbs (perm_of [0, 3, 1, 2] (by show (List.range' 0 4).Perm [0, 3, 1, 2]; decide) (by rfl))
 obtain ⟨k4, g4⟩ : ∃ k : Nat, Rt[k]? = some (boxR p4 (.cells #[.pointer (some ⟨h, 0, none⟩)] 27)) := by rw [hRt]; exact erase_at n4 h4
 obtain ⟨k5, g5⟩ : ∃ k : Nat, Rt[k]? = some (boxV p5 x) := by rw [hRt]; exact erase_at n5 h5
 obtain ⟨k6, g6⟩ : ∃ k : Nat, Rt[k]? = some (boxV p6 y) := by rw [hRt]; exact erase_at n6 h6
 clear hRt
 have C1 := baseC3 (w := w) (b := b + 1) hbs 0 rfl
 have C0 := baseC3 (w := w) (b := b) hbs 1 rfl
 clear hbs
 replace S := Lib.hid S
 go_enter Tryz.func104, Tryz.ntmps104
 go_upto_region 1 with fail
 try simp only [World.size_alloc, hb]
 clear hb
 go_upto_region 1 with fail
 go_cut [13] (fun s13 wx => s13 = .bool p ∧ Sep w ([boxE (b + 1 + 1), heapR h H] ++ bA) wx)
 case first =>
  by_cases h3 : kx = 1
  ·
   have e1 : (kx == 1) = true := by simp [h3]
   obtain ⟨q, hq⟩ : ∃ b, b = (y.kind == 2) := ⟨_, rfl⟩
   have HQ := Lib.hid hq
   obtain rfl : p = q := by rw [hq, ← HP_.out]; simp [h3]; rfl
   clear hq h3
   refine regionL (E := [boxE (b + 1 + 1), heapR h H]) (base := bA) S.out ?_
   clear S
   refine qa ?_
   refine qc C0 ?_
   refine qd (.int .i64 kx) [boxE (b + 1 + 1), heapR h H] (h1 := fun Wx hSw => by (go_simp; refine symCall ?_; exact kind_at hSw 1 rfl x kx Hkx_.out)) (h2 := ?_)
   iterate 3 refine qa ?_
   refine qc C1 ?_
   refine qa (v := .bool p) (hy := fun E Wx hSw => by (go_simp; rw [HQ.out]; exact ⟨rfl, hSw⟩)) (h := ?_)
   iterate 2 refine qa ?_
   refine doneL (h := fun w1 S => ?_)
   replace S := Lib.hid S
   go_wp2_with fail
   go_meet
   exact ⟨rfl, S.out⟩
  ·
   have e1 : (kx == 1) = false := by simp [h3]
   obtain rfl : p = false := by rw [← HP_.out]; simp [h3]
   clear h3
   refine regionL (E := [boxE (b + 1 + 1), heapR h H]) (base := bA) S.out ?_
   clear S
   refine qa ?_
   refine qc C0 ?_
   refine qd (.int .i64 kx) [boxE (b + 1 + 1), heapR h H] (h1 := fun Wx hSw => by (go_simp; refine symCall ?_; exact kind_at hSw 1 rfl x kx Hkx_.out)) (h2 := ?_)
   iterate 2 refine qa ?_
   iterate 3 refine qz ?_
   iterate 2 refine qa ?_
   refine doneL (h := fun w2 S => ?_)
   replace S := Lib.hid S
   go_wp2_with fail
   go_meet
   exact ⟨rfl, S.out⟩
 case rest =>
  obtain ⟨rfl, S⟩ := hcut
  replace S := Lib.hid S
  cases p with
  | true =>
   obtain ⟨hk1, hy2⟩ : kx = 1 ∧ y.kind = 2 := by simpa using HP_.out
   have hx1 : H.kind x = 1 := by rw [Hkx_.out]; exact hk1
   obtain ⟨ok, hok⟩ : ∃ b, inP X1.length y.n = b := ⟨_, rfl⟩
   obtain ⟨j, hj⟩ : ∃ j, placeP X1.length y.n = j := ⟨_, rfl⟩
   have hc : H.kind x = 1 ∧ y.kind = 2 := ⟨hx1, hy2⟩
   have hv1 : ok = true → r = ansV V.zero ∧ H1 = H.replace x j (j + 1) [] := fun e => by rw [← HR.out, ← HH1.out, ← hj]; unfold HeapM.diE HeapM.diH; rw [if_pos hc, if_pos hc, HX1_.out, hok, if_pos e, if_pos e]; exact ⟨rfl, rfl⟩
   have hv0 : ok = false → r = ansN indexError ∧ H = H1 := fun e => by subst e; rw [← HR.out, ← HH1.out]; unfold HeapM.diE HeapM.diH; rw [if_pos hc, if_pos hc, HX1_.out, hok]; exact ⟨rfl, rfl⟩
   have hjo : okI j := by rw [← hj]; exact okI_place (by have := HL.out; omega) y.hn
   have hjw : ok = true → IntKind.i64.wrap (j + 1) = j + 1 := fun e => by rw [← hj]; exact placeP_wrap (by have := HL.out; omega) (by rw [hok]; exact e)
   have Xhok := Lib.hid hok
   have Xhj := Lib.hid hj
   have Xhv1 := Lib.hid hv1
   have Xhv0 := Lib.hid hv0
   have Xhjo := Lib.hid hjo
   have Xhjw := Lib.hid hjw
   clear hok hj hv1 hv0 hjo hjw hx1 hk1 hy2 hc
   have KP : QuietC w bA 85 #[.int .i64 X1.length, .int .i64 y.n] (.tuple #[.int .i64 j, .bool ok]) := Lib.hid fun W Q T => by
    have hh := place_ok W X1.length y.n (by have := HL.out; omega) y.hn
    rw [Xhok.out, Xhj.out] at hh
    exact hh.mono fun e W' ⟨e1, e2⟩ => ⟨e1, by rw [e2]; exact T⟩
   go_upto_region 2 with fail
   refine regionP 2 9 (E := [boxE (b + 1 + 1), heapR h H]) (base := bA) S.out ?_
   clear S
   refine qp ?_
   refine qpc C0 ?_
   refine endP ?_
   refine qs 3 ?_
   refine qsc 4 C1 ?_
   refine readyS [2] ?_
   refine detS (.int .i64 X1.length) [boxE (b + 1 + 1), heapR h H] (h1 := fun Wx hSw => by (go_simp; refine symCall ?_; exact len_at hSw 1 rfl x X1.length (by rw [HX1_.out]))) (h2 := ?_) (hs := nilS); simp only [Act.put, pa]; try dsimp only [List.set]
   refine qsk 5 KP ?_
   refine qs 6 ?_
   refine qs 7 ?_
   refine qs 8 ?_
   refine qs 9 ?_
   refine qs 10 ?_
   refine doneS (h := fun w3 S => ?_)
   replace S := Lib.hid S
   cases ok with
   | true =>
    obtain ⟨rfl, hh⟩ := Xhv1.out rfl
    have HH := Lib.hid hh
    clear hh
    go_upto_region 5 with fail
    refine regionL (E := [boxE (b + 1 + 1), heapR h H]) (base := bA) S.out ?_
    clear S
    iterate 2 refine qa ?_
    refine qd (.tuple #[]) [boxE (b + 1 + 1), heapR h H1] (h1 := fun Wx hSw => by (go_simp; refine symCall ?_; rw [HBS.out] at hSw ⊢; rw [HH.out]; exact del_item hSw 1 (by rfl) G hN (i4 := k4 + 4) (i5 := k5 + 4) (by simpa using g4) x (by simpa using g5) j (Xhjw.out rfl))) (h2 := ?_)
    refine doneL (h := fun w4 S => ?_)
    replace S := Lib.hid S
    go_upto_region 6 with fail
    refine regionL (E := [boxE (b + 1 + 1), heapR h H1]) (base := bA) S.out ?_
    clear S
    refine qa ?_
    refine qd undef [boxE (b + 1 + 1), heapR h H1] (h1 := fun Wx hSw => by (have hz := hSw.box (b := (b + 1 + 1)) (o := objE) 0 rfl; refine useZ5 hz fun z0 z1 z2 z3 z4 y0 y1 y2 y3 y4 => ?_; go_simp; exact ⟨rfl, hSw.set5 0 rfl (.string ⟨#[]⟩) (.int .i64 0) (.int .i64 0) (.string ⟨#[]⟩) (.bool false)⟩)) (h2 := ?_)
    refine doneL (h := fun w5 S => ?_)
    refine useR5 (S.box (b := b + 1 + 1) (o := objE) 0 rfl) fun r0 r1 r2 r3 r4 => ?_
    replace S := Lib.hid S
    repeat (first | go_values | go_skip | go_guarded | go_step)
    refine bodyPost_ret (v := excZ) ?_ ?_ ?_
    ·
     simp [results, Tryz.results104, go_sem, r0, r1, r2, r3, r4]
    ·
     rfl
    refine ⟨rfl, ?_⟩
    replace S := S.out
    rw [HBS.out] at S
    exact HF.out _ _ (S.sub (Qs := heapR h (H1) :: Rt) (.cons _ (.cons_cons _ (.cons _ (.cons _ (List.Sublist.refl _))))))
   | false =>
    obtain ⟨rfl, rfl⟩ := Xhv0.out rfl
    have KE : QuietC w bA 87 #[.string indexError] (excN indexError) := Lib.hid fun W Q T => by
     exact (raise_ok W _).mono fun e W' ⟨e1, e2⟩ => ⟨e1, T.later e2⟩
    go_upto_region 4 with fail
    refine regionL (E := [boxE (b + 1 + 1), heapR h H]) (base := bA) S.out ?_
    clear S
    refine qk KE ?_
    refine qd undef [boxN (b + 1 + 1) indexError, heapR h H] (h1 := fun Wx hSw => by (have hz := hSw.box (b := (b + 1 + 1)) (o := objE) 0 rfl; refine useZ5 hz fun z0 z1 z2 z3 z4 y0 y1 y2 y3 y4 => ?_; go_simp; exact ⟨rfl, hSw.set5 0 rfl (.string indexError) (.int .i64 0) (.int .i64 0) (.string ⟨#[]⟩) (.bool false)⟩)) (h2 := ?_)
    refine doneL (h := fun w6 S => ?_)
    refine useR5 (S.box (b := b + 1 + 1) (o := objN indexError) 0 rfl) fun r0 r1 r2 r3 r4 => ?_
    replace S := Lib.hid S
    repeat (first | go_values | go_skip | go_guarded | go_step)
    refine bodyPost_ret (v := excN indexError) ?_ ?_ ?_
    ·
     simp [results, Tryz.results104, go_sem, r0, r1, r2, r3, r4]
    ·
     rfl
    refine ⟨rfl, ?_⟩
    replace S := S.out
    rw [HBS.out] at S
    exact HF.out _ _ (S.sub (Qs := heapR h (H) :: Rt) (.cons _ (.cons_cons _ (.cons _ (.cons _ (List.Sublist.refl _))))))
  | false =>
   have HNP : Hid (¬ (H.kind x = 1 ∧ y.kind = 2)) := Lib.hid (by rw [Hkx_.out]; simpa using HP_.out)
   have KY : QuietC w bA 89 #[agV y] (.bool ky) := Lib.hid fun W Q T => by
    have hh := dict_key W y
    rw [Hky_.out] at hh
    exact hh.mono fun e W' ⟨e1, e2⟩ => ⟨e1, T.later e2⟩
   go_upto_region 7 with fail
   go_cut [39] (fun s39 wx => s39 = .bool d ∧ Sep w ([boxE (b + 1 + 1), heapR h H] ++ bA) wx)
   case first =>
    by_cases h3 : kx = 3
    ·
     have e1 : (kx == 3) = true := by simp [h3]
     obtain rfl : d = ky := by rw [← HD.out]; simp [h3]
     clear h3
     refine regionL (E := [boxE (b + 1 + 1), heapR h H]) (base := bA) S.out ?_
     clear S
     refine qa ?_
     refine qc C0 ?_
     refine qd (.int .i64 kx) [boxE (b + 1 + 1), heapR h H] (h1 := fun Wx hSw => by (go_simp; refine symCall ?_; exact kind_at hSw 1 rfl x kx Hkx_.out)) (h2 := ?_)
     iterate 2 refine qa ?_
     refine qc C1 ?_
     refine qk KY ?_
     iterate 2 refine qa ?_
     refine doneL (h := fun w7 S => ?_)
     replace S := Lib.hid S
     go_wp2_with fail
     go_meet
     exact ⟨rfl, S.out⟩
    ·
     have e1 : (kx == 3) = false := by simp [h3]
     obtain rfl : d = false := by rw [← HD.out]; simp [h3]
     clear h3
     refine regionL (E := [boxE (b + 1 + 1), heapR h H]) (base := bA) S.out ?_
     clear S
     refine qa ?_
     refine qc C0 ?_
     refine qd (.int .i64 kx) [boxE (b + 1 + 1), heapR h H] (h1 := fun Wx hSw => by (go_simp; refine symCall ?_; exact kind_at hSw 1 rfl x kx Hkx_.out)) (h2 := ?_)
     iterate 2 refine qa ?_
     iterate 2 refine qz ?_
     iterate 2 refine qa ?_
     refine doneL (h := fun w8 S => ?_)
     replace S := Lib.hid S
     go_wp2_with fail
     go_meet
     exact ⟨rfl, S.out⟩
   case rest =>
    obtain ⟨rfl, S⟩ := hcut
    replace S := Lib.hid S
    cases d with
    | true =>
     have hc : H.kind x = 3 ∧ y.isKey = true := by rw [Hkx_.out, Hky_.out]; simpa using HD.out
     have hv : (if H.has x y = true then ansV V.zero else ansK y) = r := by rw [← HR.out]; unfold HeapM.diE; rw [if_neg HNP.out, if_pos hc]
     have hh : H1 = H.del x y := by rw [← HH1.out]; unfold HeapM.diH; rw [if_neg HNP.out, if_pos hc]
     have HV := Lib.hid hv
     have HH := Lib.hid hh
     clear hv hh hc
     go_upto_region 8 with fail
     refine regionL (E := [boxE (b + 1 + 1), heapR h H]) (base := bA) S.out ?_
     clear S
     refine qa ?_
     refine qd (.agg #[.string r.nm, .int .i64 r.ar.kind, .int .i64 r.ar.n, .string r.ar.s, .bool r.has]) [boxE (b + 1 + 1), heapR h H1] (h1 := fun Wx hSw => by (go_simp; refine symCall ?_; rw [HBS.out] at hSw ⊢; rw [HH.out]; exact del_pairA hSw 1 (by rfl) (i4 := k4 + 4) (i5 := k5 + 4) (i6 := k6 + 4) (by simpa using g4) x y (by simpa using g5) (by simpa using g6) (by omega) r HV.out)) (h2 := ?_)
     refine qd undef [boxX (b + 1 + 1) r.nm r.ar.kind r.ar.n r.ar.s r.has, heapR h H1] (h1 := fun Wx hSw => by (have hz := hSw.box (b := (b + 1 + 1)) (o := objE) 0 rfl; refine useZ5 hz fun z0 z1 z2 z3 z4 y0 y1 y2 y3 y4 => ?_; go_simp; exact ⟨rfl, hSw.set5 0 rfl (.string r.nm) (.int .i64 r.ar.kind) (.int .i64 r.ar.n) (.string r.ar.s) (.bool r.has)⟩)) (h2 := ?_)
     refine doneL (h := fun w9 S => ?_)
     refine useR5 (S.box (b := b + 1 + 1) (o := objX r.nm r.ar.kind r.ar.n r.ar.s r.has) 0 rfl) fun r0 r1 r2 r3 r4 => ?_
     replace S := Lib.hid S
     repeat (first | go_values | go_skip | go_guarded | go_step)
     refine bodyPost_ret (v := .agg #[.string r.nm, .int .i64 r.ar.kind, .int .i64 r.ar.n, .string r.ar.s, .bool r.has]) ?_ ?_ ?_
     ·
      simp [results, Tryz.results104, go_sem, r0, r1, r2, r3, r4]
     ·
      rfl
     refine ⟨rfl, ?_⟩
     replace S := S.out
     rw [HBS.out] at S
     exact HF.out _ _ (S.sub (Qs := heapR h (H1) :: Rt) (.cons _ (.cons_cons _ (.cons _ (.cons _ (List.Sublist.refl _))))))
    | false =>
     have hnd : ¬ (H.kind x = 3 ∧ y.isKey = true) := by rw [Hkx_.out, Hky_.out]; simpa using HD.out
     obtain rfl : r = ansN typeError := by rw [← HR.out]; unfold HeapM.diE; rw [if_neg HNP.out, if_neg hnd]
     obtain rfl : H = H1 := by rw [← HH1.out]; unfold HeapM.diH; rw [if_neg HNP.out, if_neg hnd]
     clear hnd
     have KE : QuietC w bA 87 #[.string typeError] (excN typeError) := Lib.hid fun W Q T => by
      exact (raise_ok W _).mono fun e W' ⟨e1, e2⟩ => ⟨e1, T.later e2⟩
     go_upto_region 9 with fail
     refine regionL (E := [boxE (b + 1 + 1), heapR h H]) (base := bA) S.out ?_
     clear S
     refine qk KE ?_
     refine qd undef [boxN (b + 1 + 1) typeError, heapR h H] (h1 := fun Wx hSw => by (have hz := hSw.box (b := (b + 1 + 1)) (o := objE) 0 rfl; refine useZ5 hz fun z0 z1 z2 z3 z4 y0 y1 y2 y3 y4 => ?_; go_simp; exact ⟨rfl, hSw.set5 0 rfl (.string typeError) (.int .i64 0) (.int .i64 0) (.string ⟨#[]⟩) (.bool false)⟩)) (h2 := ?_)
     refine doneL (h := fun w10 S => ?_)
     refine useR5 (S.box (b := b + 1 + 1) (o := objN typeError) 0 rfl) fun r0 r1 r2 r3 r4 => ?_
     replace S := Lib.hid S
     repeat (first | go_values | go_skip | go_guarded | go_step)
     refine bodyPost_ret (v := excN typeError) ?_ ?_ ?_
     ·
      simp [results, Tryz.results104, go_sem, r0, r1, r2, r3, r4]
     ·
      rfl
     refine ⟨rfl, ?_⟩
     replace S := S.out
     rw [HBS.out] at S
     exact HF.out _ _ (S.sub (Qs := heapR h (H) :: Rt) (.cons _ (.cons_cons _ (.cons _ (.cons _ (List.Sublist.refl _))))))
theorem si_any (S : Sep w Rs W) (i : Nat) (hi : Rs[i]? = some (heapR h H)) {N : Nat} (F : H.Fit N) (hN : N ≤ 4000000) (x y z : V) (r : AnsM) (hr : H.siE x y = r) (H1 : HeapM) (hh1 : H.siH x y z = H1) : Calls Tryz.prog 21 #[.pointer (some ⟨h, 0, none⟩), .agg #[.int .i64 x.kind, .int .i64 x.n, .string x.s], .agg #[.int .i64 y.kind, .int .i64 y.n, .string y.s], .agg #[.int .i64 z.kind, .int .i64 z.n, .string z.s]] W fun e W' => e = .returned r.exc ∧ Sep w (Rs.set i (heapR h H1)) W' := by
 have G := F.G
 have HR := Lib.hid hr
 have HH1 := Lib.hid hh1
 clear hr hh1
 obtain ⟨b, hb⟩ : ∃ gx_, (W.heap.size) = gx_ := ⟨_, rfl⟩
 replace S := (((((S.alloc (.cells #[.pointer (some ⟨h, 0, none⟩)] 27)).alloc (.cells #[.int .i64 x.kind, .int .i64 x.n, .string x.s] 24)).alloc (.cells #[.int .i64 y.kind, .int .i64 y.n, .string y.s] 24)).alloc (.cells #[.int .i64 z.kind, .int .i64 z.n, .string z.s] 24)).alloc (.cells #[.string ⟨#[]⟩, .int .i64 0, .int .i64 0, .string ⟨#[]⟩, .bool false] 33))
 simp only [World.size_alloc, hb] at S
 obtain ⟨Rt, hRt⟩ : ∃ l, l = Rs.eraseIdx i := ⟨_, rfl⟩
 have HF : Hid (∀ H' W', Sep w (heapR h H' :: Rt) W' → Sep w (Rs.set i (heapR h H')) W') := Lib.hid fun H' W' T => by rw [hRt] at T; exact T.perm (perm_push hi).symm
 obtain ⟨bA, hbs⟩ : ∃ l, l = boxV (b + 1 + 1 + 1) z :: boxV (b + 1 + 1) y :: boxV (b + 1) x :: boxR b (.cells #[.pointer (some ⟨h, 0, none⟩)] 27) :: Rt := ⟨_, rfl⟩
 have HBS := Lib.hid hbs
 replace S := enterQ (w := w) (all := [boxE (b + 1 + 1 + 1 + 1), boxV (b + 1 + 1 + 1) z, boxV (b + 1 + 1) y, boxV (b + 1) x, boxR b (.cells #[.pointer (some ⟨h, 0, none⟩)] 27)]) (E := [boxE (b + 1 + 1 + 1 + 1), heapR h H]) (B := [boxV (b + 1 + 1 + 1) z, boxV (b + 1 + 1) y, boxV (b + 1) x, boxR b (.cells #[.pointer (some ⟨h, 0, none⟩)] 27)]) (Rs := Rs) S hRt hi hbs (perm_of [0, 5, 1, 2, 3, 4] (by show (List.range' 0 6).Perm [0, 5, 1, 2, 3, 4]; decide) (by rfl))
 clear hRt
 have C3 := baseC3 (w := w) (b := b + 1 + 1 + 1) hbs 0 rfl
 have C2 := baseC3 (w := w) (b := b + 1 + 1) hbs 1 rfl
 have C1 := baseC3 (w := w) (b := b + 1) hbs 2 rfl
 have C0 := baseC1 (w := w) (b := b) hbs 3 rfl
 clear hbs
 replace S := Lib.hid S
 go_enter Tryz.func21, Tryz.ntmps21
 go_upto_region 1 with fail
 try simp only [World.size_alloc, hb]
 clear hb
 refine regionL (E := [boxE (b + 1 + 1 + 1 + 1), heapR h H]) (base := bA) S.out ?_
 clear S
 refine qc C0 ?_
 refine qc C1 ?_
 refine qc C2 ?_
 iterate 2 refine qa ?_
 refine qd (.agg #[.string r.nm, .int .i64 r.ar.kind, .int .i64 r.ar.n, .string r.ar.s, .bool r.has]) [boxE (b + 1 + 1 + 1 + 1), heapR h H1] (h1 := fun Wx hSw => by (go_simp; refine symCall ?_; rw [HBS.out] at hSw ⊢; exact chg_setA hSw 1 (by rfl) G hN x y z (i4 := 5) (p4 := b) (i5 := 4) (p5 := b + 1) (i6 := 3) (p6 := b + 1 + 1) (i7 := 2) (p7 := b + 1 + 1 + 1) rfl rfl rfl rfl (by omega) (by omega) (by omega) (by omega) r HR.out H1 HH1.out)) (h2 := ?_)
 refine qd undef [boxX (b + 1 + 1 + 1 + 1) r.nm r.ar.kind r.ar.n r.ar.s r.has, heapR h H1] (h1 := fun Wx hSw => by (have hz := hSw.box (b := (b + 1 + 1 + 1 + 1)) (o := objE) 0 rfl; refine useZ5 hz fun z0 z1 z2 z3 z4 y0 y1 y2 y3 y4 => ?_; go_simp; exact ⟨rfl, hSw.set5 0 rfl (.string r.nm) (.int .i64 r.ar.kind) (.int .i64 r.ar.n) (.string r.ar.s) (.bool r.has)⟩)) (h2 := ?_)
 refine doneL (h := fun w1 S => ?_)
 refine useR5 (S.box (b := b + 1 + 1 + 1 + 1) (o := objX r.nm r.ar.kind r.ar.n r.ar.s r.has) 0 rfl) fun r0 r1 r2 r3 r4 => ?_
 replace S := Lib.hid S
 repeat (first | go_values | go_skip | go_guarded | go_step)
 refine bodyPost_ret (v := .agg #[.string r.nm, .int .i64 r.ar.kind, .int .i64 r.ar.n, .string r.ar.s, .bool r.has]) ?_ ?_ ?_
 ·
  simp [results, Tryz.results21, go_sem, r0, r1, r2, r3, r4]
 ·
  rfl
 refine ⟨rfl, ?_⟩
 replace S := S.out
 rw [HBS.out] at S
 exact HF.out _ _ (S.sub (Qs := heapR h H1 :: Rt) (.cons _ (.cons_cons _ (.cons _ (.cons _ (.cons _ (.cons _ (List.Sublist.refl _))))))))
theorem di_any (S : Sep w Rs W) (i : Nat) (hi : Rs[i]? = some (heapR h H)) {N : Nat} (F : H.Fit N) (hN : N ≤ 4000000) (x y : V) (r : AnsM) (hr : H.diE x y = r) (H1 : HeapM) (hh1 : H.diH x y = H1) : Calls Tryz.prog 23 #[.pointer (some ⟨h, 0, none⟩), .agg #[.int .i64 x.kind, .int .i64 x.n, .string x.s], .agg #[.int .i64 y.kind, .int .i64 y.n, .string y.s]] W fun e W' => e = .returned r.exc ∧ Sep w (Rs.set i (heapR h H1)) W' := by
 have G := F.G
 have HR := Lib.hid hr
 have HH1 := Lib.hid hh1
 clear hr hh1
 obtain ⟨b, hb⟩ : ∃ gx_, (W.heap.size) = gx_ := ⟨_, rfl⟩
 replace S := ((((S.alloc (.cells #[.pointer (some ⟨h, 0, none⟩)] 27)).alloc (.cells #[.int .i64 x.kind, .int .i64 x.n, .string x.s] 24)).alloc (.cells #[.int .i64 y.kind, .int .i64 y.n, .string y.s] 24)).alloc (.cells #[.string ⟨#[]⟩, .int .i64 0, .int .i64 0, .string ⟨#[]⟩, .bool false] 33))
 simp only [World.size_alloc, hb] at S
 obtain ⟨Rt, hRt⟩ : ∃ l, l = Rs.eraseIdx i := ⟨_, rfl⟩
 have HF : Hid (∀ H' W', Sep w (heapR h H' :: Rt) W' → Sep w (Rs.set i (heapR h H')) W') := Lib.hid fun H' W' T => by rw [hRt] at T; exact T.perm (perm_push hi).symm
 obtain ⟨bA, hbs⟩ : ∃ l, l = boxV (b + 1 + 1) y :: boxV (b + 1) x :: boxR b (.cells #[.pointer (some ⟨h, 0, none⟩)] 27) :: Rt := ⟨_, rfl⟩
 have HBS := Lib.hid hbs
 replace S := enterQ (w := w) (all := [boxE (b + 1 + 1 + 1), boxV (b + 1 + 1) y, boxV (b + 1) x, boxR b (.cells #[.pointer (some ⟨h, 0, none⟩)] 27)]) (E := [boxE (b + 1 + 1 + 1), heapR h H]) (B := [boxV (b + 1 + 1) y, boxV (b + 1) x, boxR b (.cells #[.pointer (some ⟨h, 0, none⟩)] 27)]) (Rs := Rs) S hRt hi hbs (perm_of [0, 4, 1, 2, 3] (by show (List.range' 0 5).Perm [0, 4, 1, 2, 3]; decide) (by rfl))
 clear hRt
 have C2 := baseC3 (w := w) (b := b + 1 + 1) hbs 0 rfl
 have C1 := baseC3 (w := w) (b := b + 1) hbs 1 rfl
 have C0 := baseC1 (w := w) (b := b) hbs 2 rfl
 clear hbs
 replace S := Lib.hid S
 go_enter Tryz.func23, Tryz.ntmps23
 go_upto_region 1 with fail
 try simp only [World.size_alloc, hb]
 clear hb
 refine regionL (E := [boxE (b + 1 + 1 + 1), heapR h H]) (base := bA) S.out ?_
 clear S
 refine qc C0 ?_
 refine qc C1 ?_
 refine qc C2 ?_
 iterate 2 refine qa ?_
 refine qd (.agg #[.string r.nm, .int .i64 r.ar.kind, .int .i64 r.ar.n, .string r.ar.s, .bool r.has]) [boxE (b + 1 + 1 + 1), heapR h H1] (h1 := fun Wx hSw => by (go_simp; refine symCall ?_; rw [HBS.out] at hSw ⊢; exact chg_delA hSw 1 (by rfl) G hN x y (i4 := 4) (p4 := b) (i5 := 3) (p5 := b + 1) (i6 := 2) (p6 := b + 1 + 1) rfl rfl rfl (by omega) (by omega) (by omega) r HR.out H1 HH1.out)) (h2 := ?_)
 refine qd undef [boxX (b + 1 + 1 + 1) r.nm r.ar.kind r.ar.n r.ar.s r.has, heapR h H1] (h1 := fun Wx hSw => by (have hz := hSw.box (b := (b + 1 + 1 + 1)) (o := objE) 0 rfl; refine useZ5 hz fun z0 z1 z2 z3 z4 y0 y1 y2 y3 y4 => ?_; go_simp; exact ⟨rfl, hSw.set5 0 rfl (.string r.nm) (.int .i64 r.ar.kind) (.int .i64 r.ar.n) (.string r.ar.s) (.bool r.has)⟩)) (h2 := ?_)
 refine doneL (h := fun w1 S => ?_)
 refine useR5 (S.box (b := b + 1 + 1 + 1) (o := objX r.nm r.ar.kind r.ar.n r.ar.s r.has) 0 rfl) fun r0 r1 r2 r3 r4 => ?_
 replace S := Lib.hid S
 repeat (first | go_values | go_skip | go_guarded | go_step)
 refine bodyPost_ret (v := .agg #[.string r.nm, .int .i64 r.ar.kind, .int .i64 r.ar.n, .string r.ar.s, .bool r.has]) ?_ ?_ ?_
 ·
  simp [results, Tryz.results23, go_sem, r0, r1, r2, r3, r4]
 ·
  rfl
 refine ⟨rfl, ?_⟩
 replace S := S.out
 rw [HBS.out] at S
 exact HF.out _ _ (S.sub (Qs := heapR h H1 :: Rt) (.cons _ (.cons_cons _ (.cons _ (.cons _ (.cons _ (List.Sublist.refl _)))))))
end
end Go.Proofs.YtijlebhoapdfnaaGreat
