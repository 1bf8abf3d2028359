/-
 OperateCmp: for any objects, any two values and any word, the law returns true: comparisons tell what the document says. No condition.
-/
import Derived.Test.YtijlebhoapdfnaaGreatShownP
import Derived.Test.YtijlebhoapdfnaaGreatFrame
import Derived.Test.YtijlebhoapdfnaaGreatAlike16
import Derived.Test.YtijlebhoapdfnaaGreatRCmpC
import Derived.Test.YtijlebhoapdfnaaGreatLawO
import Derived.Test.YtijlebhoapdfnaaGreatMade16
set_option maxRecDepth 100000
set_option maxHeartbeats 12800000
namespace Go.Proofs.YtijlebhoapdfnaaGreat.operateCmp
set_option linter.unusedSimpArgs false
open Go.ChangeShapes Go.WideShapes Go.ChangeAt Go.RowKit
open Go.ChangeMaps (open_string)
set_option linter.unusedVariables false
attribute [local irreducible] wpSeqS wpAnyS wpPreS
theorem plain_size (x : V) : (plainV x).s.size ≤ 8 := by
 show (x.s.extract 0 (min x.s.size 8)).size ≤ 8
 rw [ByteArray.size_extract]; omega
theorem shaped_m (W : World) (h : W.ShapedOpen Tryz.prog) : ∃ m, W.cell? ⟨0, 0, none⟩ = some (.int .i64 m) :=
 cell_of_shapedOpen_int (g := 0) (t := 3) (zero := #[.int .i64 0]) h (of_decide_eq_true (by kernel_rfl)) (by kernel_rfl) rfl (by kernel_rfl) (by kernel_rfl) Tryz.underlying3
theorem walk (w : World) (sl : Value) (l : List ObjI) (hs : SeesO w sl l) (x0 x1 : V) (op : ByteArray) (hop : op.size ≤ maxLen) (m : Int) (hm : w.cell? ⟨0, 0, none⟩ = some (.int .i64 m)) :
  Calls Tryz.prog 5 #[sl, .agg #[.int .i64 x0.kind, .int .i64 x0.n, .string x0.s, .int .i64 x1.kind, .int .i64 x1.n, .string x1.s], .string op] w fun e W' => e = .returned (.bool true) ∧ Below w.heap.size w W' := by
 obtain ⟨a, ha⟩ : ∃ z, z = plainV x0 := ⟨_, rfl⟩
 obtain ⟨b, hb⟩ : ∃ z, z = plainV x1 := ⟨_, rfl⟩
 obtain ⟨H, hH⟩ : ∃ H, H = madeO l := ⟨_, rfl⟩
 have HF : Hid (H.Fit 200) := Lib.hid (by rw [hH]; exact madeO_fit hs.2)
 have HB8 : Hid (b.s.size < 4294967281) := Lib.hid (by rw [hb]; have := plain_size x1; omega)
 obtain ⟨r, hr⟩ : ∃ r, (H.cmpR op a b).ans (ntB op) = r := ⟨_, rfl⟩
 have HR := Lib.hid hr
 obtain ⟨bs, ns, hsv, -⟩ := sameV_c (H.sameF 30 a b)
 have HSV := Lib.hid hsv
 have Ha_ := Lib.hid ha
 have Hb_ := Lib.hid hb
 have HH_ := Lib.hid hH
 have HS := Lib.hid hs
 have HM := Lib.hid hm
 have HOP := Lib.hid hop
 have S := Sep.start (Below.refl w.heap.size w)
 obtain ⟨q3, hq3⟩ : ∃ gx_, (w.heap.size) = gx_ := ⟨_, rfl⟩
 replace S := S.alloc (.cells #[.int .i64 x0.kind, .int .i64 x0.n, .string x0.s, .int .i64 x1.kind, .int .i64 x1.n, .string x1.s] 25)
 rw [hq3] at S ⊢
 have M0 := Lib.hid (shown_ok S)
 clear S ha hb hH hs hr hsv hm hop
 go_enter Tryz.func5, Tryz.ntmps5
 go_upto_region 1 with fail
 try simp only [hq3]
 have HQ3 := Lib.hid hq3
 clear hq3
 go_wp2_with fail
 refine M0.out.mono ?_
 rintro e w1 ⟨rfl, S⟩
 clear M0
 have M := Lib.hid (made16_ok S sl l HS.out)
 clear S
 go_wp2_with fail
 refine M.out.mono ?_
 rintro e w2 ⟨h, y, rfl, S⟩
 clear M
 rw [← HH_.out] at S
 replace S : Sep w (heapR h H :: refR y H :: boxR q3 (.cells #[.int .i64 x0.kind, .int .i64 x0.n, .string x0.s, .int .i64 x1.kind, .int .i64 x1.n, .string x1.s] 25) :: []) _ := S
 refine named (heapR h H :: refR y H :: boxR q3 (.cells #[.int .i64 x0.kind, .int .i64 x0.n, .string x0.s, .int .i64 x1.kind, .int .i64 x1.n, .string x1.s] 25) :: [] : List Res) fun b5_2 hb5_2 => ?_
 have Hb5_2 := Lib.hid hb5_2
 have Kb5_2 : Hid (∀ W (Q : List Res), Sep w (Q ++ b5_2) W → True) := Lib.hid fun W Q T => by
  rw [hb5_2] at T
  trivial
 have Cb5_2_0 : Hid (∀ W (Q : List Res), Sep w (Q ++ b5_2) W → W.cell? ⟨q3, 0, none⟩ = some (.int .i64 x0.kind) ∧ W.cell? ⟨q3, 1, none⟩ = some (.int .i64 x0.n) ∧ W.cell? ⟨q3, 2, none⟩ = some (.string x0.s) ∧ W.cell? ⟨q3, 3, none⟩ = some (.int .i64 x1.kind) ∧ W.cell? ⟨q3, 4, none⟩ = some (.int .i64 x1.n) ∧ W.cell? ⟨q3, 5, none⟩ = some (.string x1.s)) := Lib.hid fun W Q T => by
  rw [hb5_2] at T
  have i0 := T.box (b := q3) (o := .cells #[.int .i64 x0.kind, .int .i64 x0.n, .string x0.s, .int .i64 x1.kind, .int .i64 x1.n, .string x1.s] 25) (Q.length + 2) (atR rfl)
  exact ⟨cellAt i0 0 rfl, cellAt i0 1 rfl, cellAt i0 2 rfl, cellAt i0 3 rfl, cellAt i0 4 rfl, cellAt i0 5 rfl⟩
 have K5_2 : QuietC w b5_2 9 #[agV x0] (.agg #[.int .i64 a.kind, .int .i64 a.n, .string a.s]) := Lib.hid fun W Q T => by
  rw [Hb5_2.out] at T ⊢
  exact (by have hh := lplain_ok T x0; rw [← Ha_.out] at hh; exact hh)
 replace S := Lib.hid S
 clear hb5_2
 go_upto_region 5 with fail
 have S1 : Sep w ([] ++ b5_2) (w2) := by rw [Hb5_2.out]; exact S.out
 clear S
 refine regionL (E := [emptyR]) (base := b5_2) (Sep.putE S1) ?_
 clear S1
 refine qa ?_
 refine qa (hy := fun E Wx hSw => by ((obtain ⟨u0, u1, u2, u3, u4, u5⟩ := Cb5_2_0.out _ _ hSw); go_simp; exact ⟨rfl, hSw⟩)) (h := ?_)
 refine qk K5_2 ?_
 refine allocL 0 rfl (fun q => .pointer (some ⟨q, 0, none⟩)) (.cells #[.int .i64 0, .int .i64 0, .string ⟨#[]⟩] 24) (h1 := fun Wx => by go_simp) (h2 := fun qva1 => ?_); simp only [Act.put, pa]; try dsimp only [List.set]
 try simp only [List.set_cons_zero, List.set_cons_succ]
 refine qd undef [boxV qva1 a] (h1 := fun Wx hSw => by (have hz := hSw.box (b := qva1) (o := objZ) 0 rfl; refine useZ3 hz fun z0 z1 z2 y0 y1 y2 => ?_; go_simp; exact ⟨rfl, hSw.set3 0 rfl (.int .i64 a.kind) (.int .i64 a.n) (.string a.s)⟩)) (h2 := ?_)
 refine doneL (h := fun w4 S => ?_)
 replace S : Sep w (boxV qva1 a :: heapR h H :: refR y H :: boxR q3 (.cells #[.int .i64 x0.kind, .int .i64 x0.n, .string x0.s, .int .i64 x1.kind, .int .i64 x1.n, .string x1.s] 25) :: []) w4 := by rw [Hb5_2.out] at S; exact S
 clear Hb5_2 Kb5_2 K5_2 Cb5_2_0
 refine named (boxV qva1 a :: heapR h H :: refR y H :: boxR q3 (.cells #[.int .i64 x0.kind, .int .i64 x0.n, .string x0.s, .int .i64 x1.kind, .int .i64 x1.n, .string x1.s] 25) :: [] : List Res) fun b6_4 hb6_4 => ?_
 have Hb6_4 := Lib.hid hb6_4
 have Kb6_4 : Hid (∀ W (Q : List Res), Sep w (Q ++ b6_4) W → True) := Lib.hid fun W Q T => by
  rw [hb6_4] at T
  trivial
 have Cb6_4_0 : Hid (∀ W (Q : List Res), Sep w (Q ++ b6_4) W → W.cell? ⟨q3, 0, none⟩ = some (.int .i64 x0.kind) ∧ W.cell? ⟨q3, 1, none⟩ = some (.int .i64 x0.n) ∧ W.cell? ⟨q3, 2, none⟩ = some (.string x0.s) ∧ W.cell? ⟨q3, 3, none⟩ = some (.int .i64 x1.kind) ∧ W.cell? ⟨q3, 4, none⟩ = some (.int .i64 x1.n) ∧ W.cell? ⟨q3, 5, none⟩ = some (.string x1.s)) := Lib.hid fun W Q T => by
  rw [hb6_4] at T
  have i0 := T.box (b := q3) (o := .cells #[.int .i64 x0.kind, .int .i64 x0.n, .string x0.s, .int .i64 x1.kind, .int .i64 x1.n, .string x1.s] 25) (Q.length + 3) (atR rfl)
  exact ⟨cellAt i0 0 rfl, cellAt i0 1 rfl, cellAt i0 2 rfl, cellAt i0 3 rfl, cellAt i0 4 rfl, cellAt i0 5 rfl⟩
 have K6_2 : QuietC w b6_4 9 #[agV x1] (.agg #[.int .i64 b.kind, .int .i64 b.n, .string b.s]) := Lib.hid fun W Q T => by
  rw [Hb6_4.out] at T ⊢
  exact (by have hh := lplain_ok T x1; rw [← Hb_.out] at hh; exact hh)
 replace S := Lib.hid S
 clear hb6_4
 go_upto_region 6 with fail
 have S1 : Sep w ([] ++ b6_4) (w4) := by rw [Hb6_4.out]; exact S.out
 clear S
 refine regionL (E := [emptyR]) (base := b6_4) (Sep.putE S1) ?_
 clear S1
 refine qa ?_
 refine qa (hy := fun E Wx hSw => by ((obtain ⟨u0, u1, u2, u3, u4, u5⟩ := Cb6_4_0.out _ _ hSw); go_simp; exact ⟨rfl, hSw⟩)) (h := ?_)
 refine qk K6_2 ?_
 refine allocL 0 rfl (fun q => .pointer (some ⟨q, 0, none⟩)) (.cells #[.int .i64 0, .int .i64 0, .string ⟨#[]⟩] 24) (h1 := fun Wx => by go_simp) (h2 := fun qvb1 => ?_); simp only [Act.put, pa]; try dsimp only [List.set]
 try simp only [List.set_cons_zero, List.set_cons_succ]
 refine qd undef [boxV qvb1 b] (h1 := fun Wx hSw => by (have hz := hSw.box (b := qvb1) (o := objZ) 0 rfl; refine useZ3 hz fun z0 z1 z2 y0 y1 y2 => ?_; go_simp; exact ⟨rfl, hSw.set3 0 rfl (.int .i64 b.kind) (.int .i64 b.n) (.string b.s)⟩)) (h2 := ?_)
 refine doneL (h := fun w6 S => ?_)
 replace S : Sep w (boxV qvb1 b :: boxV qva1 a :: heapR h H :: refR y H :: boxR q3 (.cells #[.int .i64 x0.kind, .int .i64 x0.n, .string x0.s, .int .i64 x1.kind, .int .i64 x1.n, .string x1.s] 25) :: []) w6 := by rw [Hb6_4.out] at S; exact S
 clear Hb6_4 Kb6_4 K6_2 Cb6_4_0
 refine named (boxV qvb1 b :: boxV qva1 a :: heapR h H :: refR y H :: boxR q3 (.cells #[.int .i64 x0.kind, .int .i64 x0.n, .string x0.s, .int .i64 x1.kind, .int .i64 x1.n, .string x1.s] 25) :: [] : List Res) fun b7_6 hb7_6 => ?_
 have Hb7_6 := Lib.hid hb7_6
 have Kb7_6 : Hid (∀ W (Q : List Res), Sep w (Q ++ b7_6) W → True) := Lib.hid fun W Q T => by
  rw [hb7_6] at T
  trivial
 have Cb7_6_0 := baseC3 (w := w) (b := qva1) hb7_6 1 rfl
 have Cb7_6_1 := baseC3 (w := w) (b := qvb1) hb7_6 0 rfl
 have K7_4 : QuietC w b7_6 25 #[hpV h, .string op, agV a, agV b] (.tuple #[.agg #[.int .i64 r.v.kind, .int .i64 r.v.n, .string r.v.s], .agg #[.string r.nm, .int .i64 r.ar.kind, .int .i64 r.ar.n, .string r.ar.s, .bool r.has]]) := Lib.hid fun W Q T => by
  rw [Hb7_6.out] at T ⊢
  exact (by have hh := cmp_any HF.out.G (by decide) op HOP.out a b HB8.out m HM.out T (Q.length + 2) (atR rfl); rw [cmpV_ans, HR.out] at hh; exact hh)
 replace S := Lib.hid S
 clear hb7_6
 go_upto_region 7 with fail
 have S1 : Sep w ([] ++ b7_6) (w6) := by rw [Hb7_6.out]; exact S.out
 clear S
 refine regionL (E := [emptyR, emptyR]) (base := b7_6) (Sep.putE (Sep.putE S1)) ?_
 clear S1
 iterate 2 refine qa ?_
 refine qc Cb7_6_0 ?_
 refine qc Cb7_6_1 ?_
 refine qk K7_4 ?_
 iterate 3 refine qa ?_
 refine allocL 0 rfl (fun q => .pointer (some ⟨q, 0, none⟩)) (.cells #[.int .i64 0, .int .i64 0, .string ⟨#[]⟩] 24) (h1 := fun Wx => by go_simp) (h2 := fun qv71 => ?_); simp only [Act.put, pa]; try dsimp only [List.set]
 try simp only [List.set_cons_zero, List.set_cons_succ]
 refine allocL 1 rfl (fun q => .pointer (some ⟨q, 0, none⟩)) (.cells #[.string ⟨#[]⟩, .int .i64 0, .int .i64 0, .string ⟨#[]⟩, .bool false] 33) (h1 := fun Wx => by go_simp) (h2 := fun qe72 => ?_); simp only [Act.put, pa]; try dsimp only [List.set]
 try simp only [List.set_cons_zero, List.set_cons_succ]
 refine qd undef [boxW qv71 r.v.kind r.v.n r.v.s, boxE qe72] (h1 := fun Wx hSw => by (have hz := hSw.box (b := qv71) (o := objZ) 0 rfl; refine useZ3 hz fun z0 z1 z2 y0 y1 y2 => ?_; go_simp; exact ⟨rfl, hSw.set3 0 rfl (.int .i64 r.v.kind) (.int .i64 r.v.n) (.string r.v.s)⟩)) (h2 := ?_)
 refine qd undef [boxW qv71 r.v.kind r.v.n r.v.s, boxX qe72 r.nm r.ar.kind r.ar.n r.ar.s r.has] (h1 := fun Wx hSw => by (have hz := hSw.box (b := qe72) (o := objE) 1 rfl; refine useZ5 hz fun z0 z1 z2 z3 z4 y0 y1 y2 y3 y4 => ?_; go_simp; exact ⟨rfl, hSw.set5 1 rfl (.string r.nm) (.int .i64 r.ar.kind) (.int .i64 r.ar.n) (.string r.ar.s) (.bool r.has)⟩)) (h2 := ?_)
 refine doneL (h := fun w8 S => ?_)
 replace S : Sep w (boxW qv71 r.v.kind r.v.n r.v.s :: boxX qe72 r.nm r.ar.kind r.ar.n r.ar.s r.has :: boxV qvb1 b :: boxV qva1 a :: heapR h H :: refR y H :: boxR q3 (.cells #[.int .i64 x0.kind, .int .i64 x0.n, .string x0.s, .int .i64 x1.kind, .int .i64 x1.n, .string x1.s] 25) :: []) w8 := by rw [Hb7_6.out] at S; exact S
 clear Hb7_6 Kb7_6 K7_4 Cb7_6_0 Cb7_6_1
 refine named (boxW qv71 r.v.kind r.v.n r.v.s :: boxX qe72 r.nm r.ar.kind r.ar.n r.ar.s r.has :: boxV qvb1 b :: boxV qva1 a :: heapR h H :: refR y H :: boxR q3 (.cells #[.int .i64 x0.kind, .int .i64 x0.n, .string x0.s, .int .i64 x1.kind, .int .i64 x1.n, .string x1.s] 25) :: [] : List Res) fun b8_8 hb8_8 => ?_
 have Hb8_8 := Lib.hid hb8_8
 have Kb8_8 : Hid (∀ W (Q : List Res), Sep w (Q ++ b8_8) W → True) := Lib.hid fun W Q T => by
  rw [hb8_8] at T
  trivial
 have Cb8_8_0 := baseC3 (w := w) (b := qva1) hb8_8 3 rfl
 have Cb8_8_1 := baseC3 (w := w) (b := qvb1) hb8_8 2 rfl
 have K8_4 : QuietC w b8_8 26 #[.pointer (some ⟨y, 0, none⟩), .string op, agV a, agV b] (.tuple #[.agg #[.int .i64 r.v.kind, .int .i64 r.v.n, .string r.v.s], .agg #[.string r.nm, .int .i64 r.ar.kind, .int .i64 r.ar.n, .string r.ar.s, .bool r.has]]) := Lib.hid fun W Q T => by
  rw [Hb8_8.out] at T ⊢
  exact (by have hh := rcmp_ok T (Q.length + 5) (atR rfl) HF.out.G (by decide) op a b (by have := HB8.out; omega); rw [cmpV_ans, HR.out] at hh; exact hh)
 replace S := Lib.hid S
 clear hb8_8
 go_upto_region 8 with fail
 have S1 : Sep w ([] ++ b8_8) (w8) := by rw [Hb8_8.out]; exact S.out
 clear S
 refine regionL (E := [emptyR, emptyR]) (base := b8_8) (Sep.putE (Sep.putE S1)) ?_
 clear S1
 iterate 2 refine qa ?_
 refine qc Cb8_8_0 ?_
 refine qc Cb8_8_1 ?_
 refine qk K8_4 ?_
 iterate 3 refine qa ?_
 refine allocL 0 rfl (fun q => .pointer (some ⟨q, 0, none⟩)) (.cells #[.int .i64 0, .int .i64 0, .string ⟨#[]⟩] 24) (h1 := fun Wx => by go_simp) (h2 := fun qv81 => ?_); simp only [Act.put, pa]; try dsimp only [List.set]
 try simp only [List.set_cons_zero, List.set_cons_succ]
 refine allocL 1 rfl (fun q => .pointer (some ⟨q, 0, none⟩)) (.cells #[.string ⟨#[]⟩, .int .i64 0, .int .i64 0, .string ⟨#[]⟩, .bool false] 33) (h1 := fun Wx => by go_simp) (h2 := fun qe82 => ?_); simp only [Act.put, pa]; try dsimp only [List.set]
 try simp only [List.set_cons_zero, List.set_cons_succ]
 refine qd undef [boxW qv81 r.v.kind r.v.n r.v.s, boxE qe82] (h1 := fun Wx hSw => by (have hz := hSw.box (b := qv81) (o := objZ) 0 rfl; refine useZ3 hz fun z0 z1 z2 y0 y1 y2 => ?_; go_simp; exact ⟨rfl, hSw.set3 0 rfl (.int .i64 r.v.kind) (.int .i64 r.v.n) (.string r.v.s)⟩)) (h2 := ?_)
 refine qd undef [boxW qv81 r.v.kind r.v.n r.v.s, boxX qe82 r.nm r.ar.kind r.ar.n r.ar.s r.has] (h1 := fun Wx hSw => by (have hz := hSw.box (b := qe82) (o := objE) 1 rfl; refine useZ5 hz fun z0 z1 z2 z3 z4 y0 y1 y2 y3 y4 => ?_; go_simp; exact ⟨rfl, hSw.set5 1 rfl (.string r.nm) (.int .i64 r.ar.kind) (.int .i64 r.ar.n) (.string r.ar.s) (.bool r.has)⟩)) (h2 := ?_)
 refine doneL (h := fun w10 S => ?_)
 replace S : Sep w (boxW qv81 r.v.kind r.v.n r.v.s :: boxX qe82 r.nm r.ar.kind r.ar.n r.ar.s r.has :: boxW qv71 r.v.kind r.v.n r.v.s :: boxX qe72 r.nm r.ar.kind r.ar.n r.ar.s r.has :: boxV qvb1 b :: boxV qva1 a :: heapR h H :: refR y H :: boxR q3 (.cells #[.int .i64 x0.kind, .int .i64 x0.n, .string x0.s, .int .i64 x1.kind, .int .i64 x1.n, .string x1.s] 25) :: []) w10 := by rw [Hb8_8.out] at S; exact S
 clear Hb8_8 Kb8_8 K8_4 Cb8_8_0 Cb8_8_1
 refine named (boxW qv81 r.v.kind r.v.n r.v.s :: boxX qe82 r.nm r.ar.kind r.ar.n r.ar.s r.has :: boxW qv71 r.v.kind r.v.n r.v.s :: boxX qe72 r.nm r.ar.kind r.ar.n r.ar.s r.has :: boxV qvb1 b :: boxV qva1 a :: heapR h H :: refR y H :: boxR q3 (.cells #[.int .i64 x0.kind, .int .i64 x0.n, .string x0.s, .int .i64 x1.kind, .int .i64 x1.n, .string x1.s] 25) :: [] : List Res) fun b9_10 hb9_10 => ?_
 have Hb9_10 := Lib.hid hb9_10
 have Kb9_10 : Hid (∀ W (Q : List Res), Sep w (Q ++ b9_10) W → True) := Lib.hid fun W Q T => by
  rw [hb9_10] at T
  trivial
 have Cb9_10_0 := baseC3 (w := w) (b := qva1) hb9_10 5 rfl
 have Cb9_10_1 := baseC3 (w := w) (b := qvb1) hb9_10 4 rfl
 have K9_3 : QuietC w b9_10 27 #[hpV h, agV a, agV b] (.tuple #[.bool bs, excN ns]) := Lib.hid fun W Q T => by
  rw [Hb9_10.out] at T ⊢
  exact (by have hh := sameOp_ok HF.out.G (by decide) (Q.length + 6) T (atR rfl) a b; rw [HSV.out] at hh; exact hh)
 replace S := Lib.hid S
 clear hb9_10
 go_upto_region 9 with fail
 have S1 : Sep w ([] ++ b9_10) (w10) := by rw [Hb9_10.out]; exact S.out
 clear S
 refine regionL (E := [emptyR]) (base := b9_10) (Sep.putE S1) ?_
 clear S1
 refine qa ?_
 refine qc Cb9_10_0 ?_
 refine qc Cb9_10_1 ?_
 refine qk K9_3 ?_
 iterate 3 refine qa ?_
 refine allocL 0 rfl (fun q => .pointer (some ⟨q, 0, none⟩)) (.cells #[.string ⟨#[]⟩, .int .i64 0, .int .i64 0, .string ⟨#[]⟩, .bool false] 33) (h1 := fun Wx => by go_simp) (h2 := fun qe91 => ?_); simp only [Act.put, pa]; try dsimp only [List.set]
 try simp only [List.set_cons_zero, List.set_cons_succ]
 refine qa ?_
 refine qd undef [boxN qe91 ns] (h1 := fun Wx hSw => by (have hz := hSw.box (b := qe91) (o := objE) 0 rfl; refine useZ5 hz fun z0 z1 z2 z3 z4 y0 y1 y2 y3 y4 => ?_; go_simp; exact ⟨rfl, hSw.set5 0 rfl (.string ns) (.int .i64 0) (.int .i64 0) (.string ⟨#[]⟩) (.bool false)⟩)) (h2 := ?_)
 refine doneL (h := fun w12 S => ?_)
 replace S : Sep w (boxN qe91 ns :: boxW qv81 r.v.kind r.v.n r.v.s :: boxX qe82 r.nm r.ar.kind r.ar.n r.ar.s r.has :: boxW qv71 r.v.kind r.v.n r.v.s :: boxX qe72 r.nm r.ar.kind r.ar.n r.ar.s r.has :: boxV qvb1 b :: boxV qva1 a :: heapR h H :: refR y H :: boxR q3 (.cells #[.int .i64 x0.kind, .int .i64 x0.n, .string x0.s, .int .i64 x1.kind, .int .i64 x1.n, .string x1.s] 25) :: []) w12 := by rw [Hb9_10.out] at S; exact S
 clear Hb9_10 Kb9_10 K9_3 Cb9_10_0 Cb9_10_1
 refine named (boxN qe91 ns :: boxW qv81 r.v.kind r.v.n r.v.s :: boxX qe82 r.nm r.ar.kind r.ar.n r.ar.s r.has :: boxW qv71 r.v.kind r.v.n r.v.s :: boxX qe72 r.nm r.ar.kind r.ar.n r.ar.s r.has :: boxV qvb1 b :: boxV qva1 a :: heapR h H :: refR y H :: boxR q3 (.cells #[.int .i64 x0.kind, .int .i64 x0.n, .string x0.s, .int .i64 x1.kind, .int .i64 x1.n, .string x1.s] 25) :: [] : List Res) fun b10_12 hb10_12 => ?_
 have Hb10_12 := Lib.hid hb10_12
 have Kb10_12 : Hid (∀ W (Q : List Res), Sep w (Q ++ b10_12) W → True) := Lib.hid fun W Q T => by
  rw [hb10_12] at T
  trivial
 have Cb10_12_0 := baseC3 (w := w) (b := qva1) hb10_12 6 rfl
 have Cb10_12_1 := baseC3 (w := w) (b := qvb1) hb10_12 5 rfl
 have K10_3 : QuietC w b10_12 28 #[.pointer (some ⟨y, 0, none⟩), agV a, agV b] (.tuple #[.bool bs, excN ns]) := Lib.hid fun W Q T => by
  rw [Hb10_12.out] at T ⊢
  exact (by have hh := rsameOp_ok T (Q.length + 8) (atR rfl) HF.out.G (by decide) a b; rw [← sameV_nm, HSV.out] at hh; exact hh)
 replace S := Lib.hid S
 clear hb10_12
 go_upto_region 10 with fail
 have S1 : Sep w ([] ++ b10_12) (w12) := by rw [Hb10_12.out]; exact S.out
 clear S
 refine regionL (E := [emptyR]) (base := b10_12) (Sep.putE S1) ?_
 clear S1
 refine qa ?_
 refine qc Cb10_12_0 ?_
 refine qc Cb10_12_1 ?_
 refine qk K10_3 ?_
 iterate 3 refine qa ?_
 refine allocL 0 rfl (fun q => .pointer (some ⟨q, 0, none⟩)) (.cells #[.string ⟨#[]⟩, .int .i64 0, .int .i64 0, .string ⟨#[]⟩, .bool false] 33) (h1 := fun Wx => by go_simp) (h2 := fun qe101 => ?_); simp only [Act.put, pa]; try dsimp only [List.set]
 try simp only [List.set_cons_zero, List.set_cons_succ]
 refine qa ?_
 refine qd undef [boxN qe101 ns] (h1 := fun Wx hSw => by (have hz := hSw.box (b := qe101) (o := objE) 0 rfl; refine useZ5 hz fun z0 z1 z2 z3 z4 y0 y1 y2 y3 y4 => ?_; go_simp; exact ⟨rfl, hSw.set5 0 rfl (.string ns) (.int .i64 0) (.int .i64 0) (.string ⟨#[]⟩) (.bool false)⟩)) (h2 := ?_)
 refine doneL (h := fun w14 S => ?_)
 replace S : Sep w (boxN qe101 ns :: boxN qe91 ns :: boxW qv81 r.v.kind r.v.n r.v.s :: boxX qe82 r.nm r.ar.kind r.ar.n r.ar.s r.has :: boxW qv71 r.v.kind r.v.n r.v.s :: boxX qe72 r.nm r.ar.kind r.ar.n r.ar.s r.has :: boxV qvb1 b :: boxV qva1 a :: heapR h H :: refR y H :: boxR q3 (.cells #[.int .i64 x0.kind, .int .i64 x0.n, .string x0.s, .int .i64 x1.kind, .int .i64 x1.n, .string x1.s] 25) :: []) w14 := by rw [Hb10_12.out] at S; exact S
 clear Hb10_12 Kb10_12 K10_3 Cb10_12_0 Cb10_12_1
 refine named (boxN qe101 ns :: boxN qe91 ns :: boxW qv81 r.v.kind r.v.n r.v.s :: boxX qe82 r.nm r.ar.kind r.ar.n r.ar.s r.has :: boxW qv71 r.v.kind r.v.n r.v.s :: boxX qe72 r.nm r.ar.kind r.ar.n r.ar.s r.has :: boxV qvb1 b :: boxV qva1 a :: heapR h H :: refR y H :: boxR q3 (.cells #[.int .i64 x0.kind, .int .i64 x0.n, .string x0.s, .int .i64 x1.kind, .int .i64 x1.n, .string x1.s] 25) :: [] : List Res) fun b11_14 hb11_14 => ?_
 have Hb11_14 := Lib.hid hb11_14
 have Kb11_14 : Hid (∀ W (Q : List Res), Sep w (Q ++ b11_14) W → True) := Lib.hid fun W Q T => by
  rw [hb11_14] at T
  trivial
 have Cb11_14_0 := baseC5 (w := w) (b := qe101) hb11_14 0 rfl
 have Cb11_14_1 := baseC5 (w := w) (b := qe72) hb11_14 5 rfl
 have Cb11_14_2 := baseC5 (w := w) (b := qe82) hb11_14 3 rfl
 have Cb11_14_3 := baseC5 (w := w) (b := qe91) hb11_14 1 rfl
 have Cb11_14_4 := baseC3 (w := w) (b := qv71) hb11_14 4 rfl
 have Cb11_14_5 := baseC3 (w := w) (b := qv81) hb11_14 2 rfl
 have K11_21 : QuietC w b11_14 16 #[hpV h, .pointer (some ⟨y, 0, none⟩)] (.bool true) := Lib.hid fun W Q T => by
  rw [Hb11_14.out] at T ⊢
  exact alike16_at T (Q.length + 8) (Q.length + 9) (atR rfl) (atR rfl) (by omega) HF.out (by decide)
 replace S := Lib.hid S
 clear hb11_14
 go_upto_region 11 with fail
 have S1 : Sep w ([] ++ b11_14) (w14) := by rw [Hb11_14.out]; exact S.out
 clear S
 refine regionL (E := []) (base := b11_14) S1 ?_
 clear S1
 refine qc Cb11_14_4 ?_
 refine qc Cb11_14_5 ?_
 iterate 2 refine qa ?_
 refine qc Cb11_14_1 ?_
 refine qc Cb11_14_2 ?_
 iterate 8 refine qa ?_
 refine qc Cb11_14_3 ?_
 refine qc Cb11_14_0 ?_
 iterate 5 refine qa ?_
 refine qk K11_21 ?_
 iterate 2 refine qa ?_
 refine doneL (h := fun w16 S => ?_)
 replace S : Sep w (boxN qe101 ns :: boxN qe91 ns :: boxW qv81 r.v.kind r.v.n r.v.s :: boxX qe82 r.nm r.ar.kind r.ar.n r.ar.s r.has :: boxW qv71 r.v.kind r.v.n r.v.s :: boxX qe72 r.nm r.ar.kind r.ar.n r.ar.s r.has :: boxV qvb1 b :: boxV qva1 a :: heapR h H :: refR y H :: boxR q3 (.cells #[.int .i64 x0.kind, .int .i64 x0.n, .string x0.s, .int .i64 x1.kind, .int .i64 x1.n, .string x1.s] 25) :: []) w16 := by rw [Hb11_14.out] at S; exact S
 clear Hb11_14 Kb11_14 K11_21 Cb11_14_0 Cb11_14_1 Cb11_14_2 Cb11_14_3 Cb11_14_4 Cb11_14_5
 replace S := Lib.hid S.below
 go_wp2
 go_ret
 exact ⟨rfl, by rw [← HQ3.out]; exact S.out⟩
theorem lifted (os : Os) (started : os.Started) (H : Type) (enc : TypeId × Value → H) :
  ReturnsInHanded {} Tryz.checked os 5 .any (Rows.operateCmpSpec.pre6 enc Tryz.prog Tryz.f5 Rows.operateCmpRow.domain false) (Rows.operateCmpSpec.post enc Tryz.prog Tryz.f5 false true false false) := by
 refine law_lift (C := Tryz.checked) own started (by kernel_rfl) Tryz.func5
  (ChangeSpec.witness6 (enc := enc) (C := Tryz.checked) false ⟨#[], #[.slice none 0 0, .agg #[.int .i64 0, .int .i64 0, .string ⟨#[]⟩, .int .i64 0, .int .i64 0, .string ⟨#[]⟩], .string ⟨#[]⟩], []⟩ 8 (by kernel_rfl) (by kernel_rfl) (by kernel_rfl) (by kernel_rfl))
  (by kernel_rfl) (by kernel_rfl) rfl (fun ds h => by
   match ds, h with
   | [d1, d2, d3], _ => exact ⟨rfl, rfl, rfl⟩) rfl Tryz.underlying4 ?_
 intro W base args ds ps hval hA hlt hwt hsh
 rw [Tryz.params5] at hA hval
 obtain ⟨v0, vs0, d0, ds0, p0, q0, hargs, rfl, rfl, h0, r0⟩ := trodAll_cons hA
 obtain ⟨v1, vs1, d1, ds1, p1, q1, rfl, rfl, rfl, h1, r1⟩ := trodAll_cons r0
 obtain ⟨v2, vs2, d2, ds2, p2, q2, rfl, rfl, rfl, h2, r2⟩ := trodAll_cons r1
 obtain ⟨rfl, rfl, rfl⟩ := trodAll_nil r2
 obtain rfl : args = #[v0, v1, v2] := by cases args; simp_all
 obtain ⟨x0, len0, cap0, rfl⟩ := okWide_slice Tryz.underlying22 (hval 0 22 v0 rfl rfl)
 obtain ⟨fuel0, hf0⟩ := h0
 obtain ⟨l0, s0⟩ := open_objs (v := .slice x0 len0 cap0) hf0
 obtain ⟨cs1, rfl, hsz1⟩ := okWide_array Tryz.underlying25 (hval 1 25 v1 rfl rfl)
 obtain ⟨fuel1, hf1⟩ := h1
 obtain ⟨p1x, e1⟩ := pair_of_trod (cs := cs1.toList) hf1
 obtain rfl : cs1 = (pairC p1x).toArray := by rw [← e1]
 obtain ⟨a2, rfl, rfl, rfl, w2⟩ := open_string Tryz.underlying9 (hval 2 9 v2 rfl rfl) h2
 obtain ⟨m, hm⟩ := shaped_m W hsh
 -- WALK
 exact walk W _ l0 s0 p1x.1 p1x.2 a2 w2 m hm
theorem proved : Rows.OperateCmpSaid :=
 OpenClaim.holds_of_wide 5 Tryz.f5 rfl rfl rfl rfl rfl rfl rfl ⟨rfl, rfl, rfl, rfl, rfl⟩ rfl rfl rfl rfl rfl (by kernel_rfl) Tryz.func5 (by kernel_rfl)
  (of_decide_eq_true (by kernel_rfl)) (by unfold Func.isWrapper; first | (rw [if_pos (by decide +kernel)]; kernel_rfl) | (rw [if_neg (by decide +kernel)]; exact ⟨rfl, rfl⟩))
  (fun os started H enc _ => lifted os started H enc)
#print axioms proved
end Go.Proofs.YtijlebhoapdfnaaGreat.operateCmp
