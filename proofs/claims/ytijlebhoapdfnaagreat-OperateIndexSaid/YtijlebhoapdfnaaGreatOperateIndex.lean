/-
 OperateIndex: for any objects and any three values, the law returns true: indices and slices tell what the document says, and leave it. No condition.
-/
import Derived.Test.YtijlebhoapdfnaaGreatShownP
import Derived.Test.YtijlebhoapdfnaaGreatFrame
import Derived.Test.YtijlebhoapdfnaaGreatAlike16
import Derived.Test.YtijlebhoapdfnaaGreatRIdx
import Derived.Test.YtijlebhoapdfnaaGreatIdxA
import Derived.Test.YtijlebhoapdfnaaGreatLawO
import Derived.Test.YtijlebhoapdfnaaGreatMade16
/- Three values as they come in. -/
set_option maxRecDepth 100000
namespace Go.Proofs.YtijlebhoapdfnaaGreat
set_option linter.unusedSimpArgs false
open Go.ChangeShapes Go.WideShapes Go.ChangeAt Go.RowKit
set_option linter.unusedVariables false
def tripC (p : V × V × V) : List Value := p.1.cells ++ (p.2.1.cells ++ p.2.2.cells)
section
variable {H : Type} {enc : TypeId × Value → H} {w : World} {base : Nat} {spare : Nat → Bool} {held : Bool}
theorem cellsP3 : Tryz.prog.cellsOf 43 = 9 := by kernel_rfl
theorem trip_of_trod {n : Nat} {cs : List Value} {y : DataW H × List MemPlace} (h : DataW.trod enc Tryz.prog w base spare held n 43 cs = some y) : ∃ p : V × V × V, cs = tripC p := by
 obtain ⟨xs, n', _, hx, hlen, hxl, hf⟩ := DataW.trod_array Tryz.underlying43 h
 rw [cellsP3] at hlen
 match cs, hlen with
 | [c0, c1, c2, c3, c4, c5, c6, c7, c8], _ =>
  match xs, hxl with
  | [y0, y1, y2], _ =>
   have h0 : DataW.trod enc Tryz.prog w base spare held n' 24 [c0, c1, c2] = some y0 := by have := hf 0 (by omega); simpa [cells1.2.2.2] using this
   have h1 : DataW.trod enc Tryz.prog w base spare held n' 24 [c3, c4, c5] = some y1 := by have := hf 1 (by omega); simpa [cells1.2.2.2] using this
   have h2 : DataW.trod enc Tryz.prog w base spare held n' 24 [c6, c7, c8] = some y2 := by have := hf 2 (by omega); simpa [cells1.2.2.2] using this
   obtain ⟨v0, e0⟩ := val_of_trod h0
   obtain ⟨v1, e1⟩ := val_of_trod h1
   obtain ⟨v2, e2⟩ := val_of_trod h2
   exact ⟨(v0, v1, v2), by show [c0, c1, c2] ++ ([c3, c4, c5] ++ [c6, c7, c8]) = _; rw [e0, e1, e2]; rfl⟩
end
end Go.Proofs.YtijlebhoapdfnaaGreat
set_option maxRecDepth 100000
set_option maxHeartbeats 12800000
namespace Go.Proofs.YtijlebhoapdfnaaGreat.operateIndex
set_option linter.unusedSimpArgs false
open Go.ChangeShapes Go.WideShapes Go.ChangeAt Go.RowKit
open Go.ChangeMaps (open_string)
set_option linter.unusedVariables false
attribute [local irreducible] wpSeqS wpAnyS wpPreS
theorem plain_size (x : V) : (plainV x).s.size ≤ 8 := by
 show (x.s.extract 0 (min x.s.size 8)).size ≤ 8
 rw [ByteArray.size_extract]; omega
theorem walk (w : World) (sl : Value) (l : List ObjI) (hs : SeesO w sl l) (x0 x1 x2 : V) :
  Calls Tryz.prog 4 #[sl, .agg #[.int .i64 x0.kind, .int .i64 x0.n, .string x0.s, .int .i64 x1.kind, .int .i64 x1.n, .string x1.s, .int .i64 x2.kind, .int .i64 x2.n, .string x2.s]] w fun e W' => e = .returned (.bool true) ∧ Below w.heap.size w W' := by
 obtain ⟨v, hv⟩ : ∃ z, z = plainV x0 := ⟨_, rfl⟩
 obtain ⟨i, hi⟩ : ∃ z, z = plainV x1 := ⟨_, rfl⟩
 obtain ⟨k, hk⟩ : ∃ z, z = plainV x2 := ⟨_, rfl⟩
 obtain ⟨H, hH⟩ : ∃ H, H = madeO l := ⟨_, rfl⟩
 have HF : Hid (H.Fit 200) := Lib.hid (by rw [hH]; exact madeO_fit hs.2)
 have HV8 : Hid (v.s.size ≤ 9000000) := Lib.hid (by rw [hv]; have := plain_size x0; omega)
 have hlo : okI (H.last + 1) := okI_of (by have := HF.out.G.wt; have := HF.out.G.ok.last; omega)
 obtain ⟨r, hr⟩ : ∃ r, H.idxM v i = r := ⟨_, rfl⟩
 have HR := Lib.hid hr
 obtain ⟨s, hsl⟩ : ∃ r, H.slA hlo v i k = r := ⟨_, rfl⟩
 have HSA := Lib.hid hsl
 obtain ⟨H1, hh1⟩ : ∃ G, H.slH v i k = G := ⟨_, rfl⟩
 have HH1 := Lib.hid hh1
 have HF1 : Hid (H1.Fit 500) := Lib.hid (by rw [← hh1]; exact (HF.out.slH v i k).more (by decide))
 obtain ⟨t, ht⟩ : ∃ r, H1.siE v i = r := ⟨_, rfl⟩
 have HT := Lib.hid ht
 obtain ⟨H2, hh2⟩ : ∃ G, H1.siH v i k = G := ⟨_, rfl⟩
 have HH2 := Lib.hid hh2
 have HF2 : Hid (H2.Fit 501) := Lib.hid (by rw [← hh2]; exact HF1.out.siH v i k)
 obtain ⟨d, hd⟩ : ∃ r, H2.diE v i = r := ⟨_, rfl⟩
 have HD := Lib.hid hd
 obtain ⟨H3, hh3⟩ : ∃ G, H2.diH v i = G := ⟨_, rfl⟩
 have HH3 := Lib.hid hh3
 have HF3 : Hid (H3.Fit 502) := Lib.hid (by rw [← hh3]; exact HF2.out.diH v i)
 have Hv_ := Lib.hid hv
 have Hi_ := Lib.hid hi
 have Hk_ := Lib.hid hk
 have HH_ := Lib.hid hH
 have HS := Lib.hid hs
 have S := Sep.start (Below.refl w.heap.size w)
 obtain ⟨q3, hq3⟩ : ∃ gx_, (w.heap.size) = gx_ := ⟨_, rfl⟩
 replace S := S.alloc (.cells #[.int .i64 x0.kind, .int .i64 x0.n, .string x0.s, .int .i64 x1.kind, .int .i64 x1.n, .string x1.s, .int .i64 x2.kind, .int .i64 x2.n, .string x2.s] 43)
 rw [hq3] at S ⊢
 have M0 := Lib.hid (shown_ok S)
 clear S hv hi hk hH hs hr hsl hh1 ht hh2 hd hh3
 go_enter Tryz.func4, Tryz.ntmps4
 go_upto_region 1 with fail
 try simp only [hq3]
 have HQ3 := Lib.hid hq3
 clear hq3
 go_wp2_with fail
 refine M0.out.mono ?_
 rintro e w1 ⟨rfl, S⟩
 clear M0
 have M := Lib.hid (made16_ok S sl l HS.out)
 clear S
 go_wp2_with fail
 refine M.out.mono ?_
 rintro e w2 ⟨h, y, rfl, S⟩
 clear M
 rw [← HH_.out] at S
 replace S : Sep w (heapR h H :: refR y H :: boxR q3 (.cells #[.int .i64 x0.kind, .int .i64 x0.n, .string x0.s, .int .i64 x1.kind, .int .i64 x1.n, .string x1.s, .int .i64 x2.kind, .int .i64 x2.n, .string x2.s] 43) :: []) _ := S
 refine named (heapR h H :: refR y H :: boxR q3 (.cells #[.int .i64 x0.kind, .int .i64 x0.n, .string x0.s, .int .i64 x1.kind, .int .i64 x1.n, .string x1.s, .int .i64 x2.kind, .int .i64 x2.n, .string x2.s] 43) :: [] : List Res) fun b5_2 hb5_2 => ?_
 have Hb5_2 := Lib.hid hb5_2
 have Kb5_2 : Hid (∀ W (Q : List Res), Sep w (Q ++ b5_2) W → True) := Lib.hid fun W Q T => by
  rw [hb5_2] at T
  trivial
 have Cb5_2_0 : Hid (∀ W (Q : List Res), Sep w (Q ++ b5_2) W → W.cell? ⟨q3, 0, none⟩ = some (.int .i64 x0.kind) ∧ W.cell? ⟨q3, 1, none⟩ = some (.int .i64 x0.n) ∧ W.cell? ⟨q3, 2, none⟩ = some (.string x0.s) ∧ W.cell? ⟨q3, 3, none⟩ = some (.int .i64 x1.kind) ∧ W.cell? ⟨q3, 4, none⟩ = some (.int .i64 x1.n) ∧ W.cell? ⟨q3, 5, none⟩ = some (.string x1.s) ∧ W.cell? ⟨q3, 6, none⟩ = some (.int .i64 x2.kind) ∧ W.cell? ⟨q3, 7, none⟩ = some (.int .i64 x2.n) ∧ W.cell? ⟨q3, 8, none⟩ = some (.string x2.s)) := Lib.hid fun W Q T => by
  rw [hb5_2] at T
  have i0 := T.box (b := q3) (o := .cells #[.int .i64 x0.kind, .int .i64 x0.n, .string x0.s, .int .i64 x1.kind, .int .i64 x1.n, .string x1.s, .int .i64 x2.kind, .int .i64 x2.n, .string x2.s] 43) (Q.length + 2) (atR rfl)
  exact ⟨cellAt i0 0 rfl, cellAt i0 1 rfl, cellAt i0 2 rfl, cellAt i0 3 rfl, cellAt i0 4 rfl, cellAt i0 5 rfl, cellAt i0 6 rfl, cellAt i0 7 rfl, cellAt i0 8 rfl⟩
 have K5_2 : QuietC w b5_2 9 #[agV x0] (.agg #[.int .i64 v.kind, .int .i64 v.n, .string v.s]) := Lib.hid fun W Q T => by
  rw [Hb5_2.out] at T ⊢
  exact (by have hh := lplain_ok T x0; rw [← Hv_.out] at hh; exact hh)
 replace S := Lib.hid S
 clear hb5_2
 go_upto_region 5 with fail
 have S1 : Sep w ([] ++ b5_2) (w2) := by rw [Hb5_2.out]; exact S.out
 clear S
 refine regionL (E := [emptyR]) (base := b5_2) (Sep.putE S1) ?_
 clear S1
 refine qa ?_
 refine qa (hy := fun E Wx hSw => by ((obtain ⟨u0, u1, u2, u3, u4, u5, u6, u7, u8⟩ := Cb5_2_0.out _ _ hSw); go_simp; exact ⟨rfl, hSw⟩)) (h := ?_)
 refine qk K5_2 ?_
 refine allocL 0 rfl (fun q => .pointer (some ⟨q, 0, none⟩)) (.cells #[.int .i64 0, .int .i64 0, .string ⟨#[]⟩] 24) (h1 := fun Wx => by go_simp) (h2 := fun qvv1 => ?_); simp only [Act.put, pa]; try dsimp only [List.set]
 try simp only [List.set_cons_zero, List.set_cons_succ]
 refine qd undef [boxV qvv1 v] (h1 := fun Wx hSw => by (have hz := hSw.box (b := qvv1) (o := objZ) 0 rfl; refine useZ3 hz fun z0 z1 z2 y0 y1 y2 => ?_; go_simp; exact ⟨rfl, hSw.set3 0 rfl (.int .i64 v.kind) (.int .i64 v.n) (.string v.s)⟩)) (h2 := ?_)
 refine doneL (h := fun w4 S => ?_)
 replace S : Sep w (boxV qvv1 v :: heapR h H :: refR y H :: boxR q3 (.cells #[.int .i64 x0.kind, .int .i64 x0.n, .string x0.s, .int .i64 x1.kind, .int .i64 x1.n, .string x1.s, .int .i64 x2.kind, .int .i64 x2.n, .string x2.s] 43) :: []) w4 := by rw [Hb5_2.out] at S; exact S
 clear Hb5_2 Kb5_2 K5_2 Cb5_2_0
 refine named (boxV qvv1 v :: heapR h H :: refR y H :: boxR q3 (.cells #[.int .i64 x0.kind, .int .i64 x0.n, .string x0.s, .int .i64 x1.kind, .int .i64 x1.n, .string x1.s, .int .i64 x2.kind, .int .i64 x2.n, .string x2.s] 43) :: [] : List Res) fun b6_4 hb6_4 => ?_
 have Hb6_4 := Lib.hid hb6_4
 have Kb6_4 : Hid (∀ W (Q : List Res), Sep w (Q ++ b6_4) W → True) := Lib.hid fun W Q T => by
  rw [hb6_4] at T
  trivial
 have Cb6_4_0 : Hid (∀ W (Q : List Res), Sep w (Q ++ b6_4) W → W.cell? ⟨q3, 0, none⟩ = some (.int .i64 x0.kind) ∧ W.cell? ⟨q3, 1, none⟩ = some (.int .i64 x0.n) ∧ W.cell? ⟨q3, 2, none⟩ = some (.string x0.s) ∧ W.cell? ⟨q3, 3, none⟩ = some (.int .i64 x1.kind) ∧ W.cell? ⟨q3, 4, none⟩ = some (.int .i64 x1.n) ∧ W.cell? ⟨q3, 5, none⟩ = some (.string x1.s) ∧ W.cell? ⟨q3, 6, none⟩ = some (.int .i64 x2.kind) ∧ W.cell? ⟨q3, 7, none⟩ = some (.int .i64 x2.n) ∧ W.cell? ⟨q3, 8, none⟩ = some (.string x2.s)) := Lib.hid fun W Q T => by
  rw [hb6_4] at T
  have i0 := T.box (b := q3) (o := .cells #[.int .i64 x0.kind, .int .i64 x0.n, .string x0.s, .int .i64 x1.kind, .int .i64 x1.n, .string x1.s, .int .i64 x2.kind, .int .i64 x2.n, .string x2.s] 43) (Q.length + 3) (atR rfl)
  exact ⟨cellAt i0 0 rfl, cellAt i0 1 rfl, cellAt i0 2 rfl, cellAt i0 3 rfl, cellAt i0 4 rfl, cellAt i0 5 rfl, cellAt i0 6 rfl, cellAt i0 7 rfl, cellAt i0 8 rfl⟩
 have K6_2 : QuietC w b6_4 9 #[agV x1] (.agg #[.int .i64 i.kind, .int .i64 i.n, .string i.s]) := Lib.hid fun W Q T => by
  rw [Hb6_4.out] at T ⊢
  exact (by have hh := lplain_ok T x1; rw [← Hi_.out] at hh; exact hh)
 replace S := Lib.hid S
 clear hb6_4
 go_upto_region 6 with fail
 have S1 : Sep w ([] ++ b6_4) (w4) := by rw [Hb6_4.out]; exact S.out
 clear S
 refine regionL (E := [emptyR]) (base := b6_4) (Sep.putE S1) ?_
 clear S1
 refine qa ?_
 refine qa (hy := fun E Wx hSw => by ((obtain ⟨u0, u1, u2, u3, u4, u5, u6, u7, u8⟩ := Cb6_4_0.out _ _ hSw); go_simp; exact ⟨rfl, hSw⟩)) (h := ?_)
 refine qk K6_2 ?_
 refine allocL 0 rfl (fun q => .pointer (some ⟨q, 0, none⟩)) (.cells #[.int .i64 0, .int .i64 0, .string ⟨#[]⟩] 24) (h1 := fun Wx => by go_simp) (h2 := fun qvi1 => ?_); simp only [Act.put, pa]; try dsimp only [List.set]
 try simp only [List.set_cons_zero, List.set_cons_succ]
 refine qd undef [boxV qvi1 i] (h1 := fun Wx hSw => by (have hz := hSw.box (b := qvi1) (o := objZ) 0 rfl; refine useZ3 hz fun z0 z1 z2 y0 y1 y2 => ?_; go_simp; exact ⟨rfl, hSw.set3 0 rfl (.int .i64 i.kind) (.int .i64 i.n) (.string i.s)⟩)) (h2 := ?_)
 refine doneL (h := fun w6 S => ?_)
 replace S : Sep w (boxV qvi1 i :: boxV qvv1 v :: heapR h H :: refR y H :: boxR q3 (.cells #[.int .i64 x0.kind, .int .i64 x0.n, .string x0.s, .int .i64 x1.kind, .int .i64 x1.n, .string x1.s, .int .i64 x2.kind, .int .i64 x2.n, .string x2.s] 43) :: []) w6 := by rw [Hb6_4.out] at S; exact S
 clear Hb6_4 Kb6_4 K6_2 Cb6_4_0
 refine named (boxV qvi1 i :: boxV qvv1 v :: heapR h H :: refR y H :: boxR q3 (.cells #[.int .i64 x0.kind, .int .i64 x0.n, .string x0.s, .int .i64 x1.kind, .int .i64 x1.n, .string x1.s, .int .i64 x2.kind, .int .i64 x2.n, .string x2.s] 43) :: [] : List Res) fun b7_6 hb7_6 => ?_
 have Hb7_6 := Lib.hid hb7_6
 have Kb7_6 : Hid (∀ W (Q : List Res), Sep w (Q ++ b7_6) W → True) := Lib.hid fun W Q T => by
  rw [hb7_6] at T
  trivial
 have Cb7_6_0 : Hid (∀ W (Q : List Res), Sep w (Q ++ b7_6) W → W.cell? ⟨q3, 0, none⟩ = some (.int .i64 x0.kind) ∧ W.cell? ⟨q3, 1, none⟩ = some (.int .i64 x0.n) ∧ W.cell? ⟨q3, 2, none⟩ = some (.string x0.s) ∧ W.cell? ⟨q3, 3, none⟩ = some (.int .i64 x1.kind) ∧ W.cell? ⟨q3, 4, none⟩ = some (.int .i64 x1.n) ∧ W.cell? ⟨q3, 5, none⟩ = some (.string x1.s) ∧ W.cell? ⟨q3, 6, none⟩ = some (.int .i64 x2.kind) ∧ W.cell? ⟨q3, 7, none⟩ = some (.int .i64 x2.n) ∧ W.cell? ⟨q3, 8, none⟩ = some (.string x2.s)) := Lib.hid fun W Q T => by
  rw [hb7_6] at T
  have i0 := T.box (b := q3) (o := .cells #[.int .i64 x0.kind, .int .i64 x0.n, .string x0.s, .int .i64 x1.kind, .int .i64 x1.n, .string x1.s, .int .i64 x2.kind, .int .i64 x2.n, .string x2.s] 43) (Q.length + 4) (atR rfl)
  exact ⟨cellAt i0 0 rfl, cellAt i0 1 rfl, cellAt i0 2 rfl, cellAt i0 3 rfl, cellAt i0 4 rfl, cellAt i0 5 rfl, cellAt i0 6 rfl, cellAt i0 7 rfl, cellAt i0 8 rfl⟩
 have K7_2 : QuietC w b7_6 9 #[agV x2] (.agg #[.int .i64 k.kind, .int .i64 k.n, .string k.s]) := Lib.hid fun W Q T => by
  rw [Hb7_6.out] at T ⊢
  exact (by have hh := lplain_ok T x2; rw [← Hk_.out] at hh; exact hh)
 replace S := Lib.hid S
 clear hb7_6
 go_upto_region 7 with fail
 have S1 : Sep w ([] ++ b7_6) (w6) := by rw [Hb7_6.out]; exact S.out
 clear S
 refine regionL (E := [emptyR]) (base := b7_6) (Sep.putE S1) ?_
 clear S1
 refine qa ?_
 refine qa (hy := fun E Wx hSw => by ((obtain ⟨u0, u1, u2, u3, u4, u5, u6, u7, u8⟩ := Cb7_6_0.out _ _ hSw); go_simp; exact ⟨rfl, hSw⟩)) (h := ?_)
 refine qk K7_2 ?_
 refine allocL 0 rfl (fun q => .pointer (some ⟨q, 0, none⟩)) (.cells #[.int .i64 0, .int .i64 0, .string ⟨#[]⟩] 24) (h1 := fun Wx => by go_simp) (h2 := fun qvk1 => ?_); simp only [Act.put, pa]; try dsimp only [List.set]
 try simp only [List.set_cons_zero, List.set_cons_succ]
 refine qd undef [boxV qvk1 k] (h1 := fun Wx hSw => by (have hz := hSw.box (b := qvk1) (o := objZ) 0 rfl; refine useZ3 hz fun z0 z1 z2 y0 y1 y2 => ?_; go_simp; exact ⟨rfl, hSw.set3 0 rfl (.int .i64 k.kind) (.int .i64 k.n) (.string k.s)⟩)) (h2 := ?_)
 refine doneL (h := fun w8 S => ?_)
 replace S : Sep w (boxV qvk1 k :: boxV qvi1 i :: boxV qvv1 v :: heapR h H :: refR y H :: boxR q3 (.cells #[.int .i64 x0.kind, .int .i64 x0.n, .string x0.s, .int .i64 x1.kind, .int .i64 x1.n, .string x1.s, .int .i64 x2.kind, .int .i64 x2.n, .string x2.s] 43) :: []) w8 := by rw [Hb7_6.out] at S; exact S
 clear Hb7_6 Kb7_6 K7_2 Cb7_6_0
 refine named (boxV qvk1 k :: boxV qvi1 i :: boxV qvv1 v :: heapR h H :: refR y H :: boxR q3 (.cells #[.int .i64 x0.kind, .int .i64 x0.n, .string x0.s, .int .i64 x1.kind, .int .i64 x1.n, .string x1.s, .int .i64 x2.kind, .int .i64 x2.n, .string x2.s] 43) :: [] : List Res) fun b8_8 hb8_8 => ?_
 have Hb8_8 := Lib.hid hb8_8
 have Kb8_8 : Hid (∀ W (Q : List Res), Sep w (Q ++ b8_8) W → True) := Lib.hid fun W Q T => by
  rw [hb8_8] at T
  trivial
 have Cb8_8_0 := baseC3 (w := w) (b := qvi1) hb8_8 1 rfl
 have Cb8_8_1 := baseC3 (w := w) (b := qvv1) hb8_8 2 rfl
 have K8_3 : QuietC w b8_8 17 #[hpV h, agV v, agV i] (.tuple #[.agg #[.int .i64 r.v.kind, .int .i64 r.v.n, .string r.v.s], .agg #[.string r.nm, .int .i64 r.ar.kind, .int .i64 r.ar.n, .string r.ar.s, .bool r.has]]) := Lib.hid fun W Q T => by
  rw [Hb8_8.out] at T ⊢
  exact (idx_any T (Q.length + 3) (atR rfl) HF.out.G (by decide) v i HV8.out r HR.out)
 replace S := Lib.hid S
 clear hb8_8
 go_upto_region 8 with fail
 have S1 : Sep w ([] ++ b8_8) (w8) := by rw [Hb8_8.out]; exact S.out
 clear S
 refine regionL (E := [emptyR, emptyR]) (base := b8_8) (Sep.putE (Sep.putE S1)) ?_
 clear S1
 refine qa ?_
 refine qc Cb8_8_1 ?_
 refine qc Cb8_8_0 ?_
 refine qk K8_3 ?_
 iterate 3 refine qa ?_
 refine allocL 0 rfl (fun q => .pointer (some ⟨q, 0, none⟩)) (.cells #[.int .i64 0, .int .i64 0, .string ⟨#[]⟩] 24) (h1 := fun Wx => by go_simp) (h2 := fun qva1 => ?_); simp only [Act.put, pa]; try dsimp only [List.set]
 try simp only [List.set_cons_zero, List.set_cons_succ]
 refine allocL 1 rfl (fun q => .pointer (some ⟨q, 0, none⟩)) (.cells #[.string ⟨#[]⟩, .int .i64 0, .int .i64 0, .string ⟨#[]⟩, .bool false] 33) (h1 := fun Wx => by go_simp) (h2 := fun qea2 => ?_); simp only [Act.put, pa]; try dsimp only [List.set]
 try simp only [List.set_cons_zero, List.set_cons_succ]
 refine qd undef [boxW qva1 r.v.kind r.v.n r.v.s, boxE qea2] (h1 := fun Wx hSw => by (have hz := hSw.box (b := qva1) (o := objZ) 0 rfl; refine useZ3 hz fun z0 z1 z2 y0 y1 y2 => ?_; go_simp; exact ⟨rfl, hSw.set3 0 rfl (.int .i64 r.v.kind) (.int .i64 r.v.n) (.string r.v.s)⟩)) (h2 := ?_)
 refine qd undef [boxW qva1 r.v.kind r.v.n r.v.s, boxX qea2 r.nm r.ar.kind r.ar.n r.ar.s r.has] (h1 := fun Wx hSw => by (have hz := hSw.box (b := qea2) (o := objE) 1 rfl; refine useZ5 hz fun z0 z1 z2 z3 z4 y0 y1 y2 y3 y4 => ?_; go_simp; exact ⟨rfl, hSw.set5 1 rfl (.string r.nm) (.int .i64 r.ar.kind) (.int .i64 r.ar.n) (.string r.ar.s) (.bool r.has)⟩)) (h2 := ?_)
 refine doneL (h := fun w10 S => ?_)
 replace S : Sep w (boxW qva1 r.v.kind r.v.n r.v.s :: boxX qea2 r.nm r.ar.kind r.ar.n r.ar.s r.has :: boxV qvk1 k :: boxV qvi1 i :: boxV qvv1 v :: heapR h H :: refR y H :: boxR q3 (.cells #[.int .i64 x0.kind, .int .i64 x0.n, .string x0.s, .int .i64 x1.kind, .int .i64 x1.n, .string x1.s, .int .i64 x2.kind, .int .i64 x2.n, .string x2.s] 43) :: []) w10 := by rw [Hb8_8.out] at S; exact S
 clear Hb8_8 Kb8_8 K8_3 Cb8_8_0 Cb8_8_1
 refine named (boxW qva1 r.v.kind r.v.n r.v.s :: boxX qea2 r.nm r.ar.kind r.ar.n r.ar.s r.has :: boxV qvk1 k :: boxV qvi1 i :: boxV qvv1 v :: heapR h H :: refR y H :: boxR q3 (.cells #[.int .i64 x0.kind, .int .i64 x0.n, .string x0.s, .int .i64 x1.kind, .int .i64 x1.n, .string x1.s, .int .i64 x2.kind, .int .i64 x2.n, .string x2.s] 43) :: [] : List Res) fun b9_10 hb9_10 => ?_
 have Hb9_10 := Lib.hid hb9_10
 have Kb9_10 : Hid (∀ W (Q : List Res), Sep w (Q ++ b9_10) W → True) := Lib.hid fun W Q T => by
  rw [hb9_10] at T
  trivial
 have Cb9_10_0 := baseC3 (w := w) (b := qvi1) hb9_10 3 rfl
 have Cb9_10_1 := baseC3 (w := w) (b := qvv1) hb9_10 4 rfl
 have K9_3 : QuietC w b9_10 18 #[.pointer (some ⟨y, 0, none⟩), agV v, agV i] (.tuple #[.agg #[.int .i64 r.v.kind, .int .i64 r.v.n, .string r.v.s], .agg #[.string r.nm, .int .i64 r.ar.kind, .int .i64 r.ar.n, .string r.ar.s, .bool r.has]]) := Lib.hid fun W Q T => by
  rw [Hb9_10.out] at T ⊢
  exact (ridx_ok T (Q.length + 6) (atR rfl) HF.out.G (by decide) v i HV8.out r HR.out)
 replace S := Lib.hid S
 clear hb9_10
 go_upto_region 9 with fail
 have S1 : Sep w ([] ++ b9_10) (w10) := by rw [Hb9_10.out]; exact S.out
 clear S
 refine regionL (E := [emptyR, emptyR]) (base := b9_10) (Sep.putE (Sep.putE S1)) ?_
 clear S1
 refine qa ?_
 refine qc Cb9_10_1 ?_
 refine qc Cb9_10_0 ?_
 refine qk K9_3 ?_
 iterate 3 refine qa ?_
 refine allocL 0 rfl (fun q => .pointer (some ⟨q, 0, none⟩)) (.cells #[.int .i64 0, .int .i64 0, .string ⟨#[]⟩] 24) (h1 := fun Wx => by go_simp) (h2 := fun qvb1 => ?_); simp only [Act.put, pa]; try dsimp only [List.set]
 try simp only [List.set_cons_zero, List.set_cons_succ]
 refine allocL 1 rfl (fun q => .pointer (some ⟨q, 0, none⟩)) (.cells #[.string ⟨#[]⟩, .int .i64 0, .int .i64 0, .string ⟨#[]⟩, .bool false] 33) (h1 := fun Wx => by go_simp) (h2 := fun qeb2 => ?_); simp only [Act.put, pa]; try dsimp only [List.set]
 try simp only [List.set_cons_zero, List.set_cons_succ]
 refine qd undef [boxW qvb1 r.v.kind r.v.n r.v.s, boxE qeb2] (h1 := fun Wx hSw => by (have hz := hSw.box (b := qvb1) (o := objZ) 0 rfl; refine useZ3 hz fun z0 z1 z2 y0 y1 y2 => ?_; go_simp; exact ⟨rfl, hSw.set3 0 rfl (.int .i64 r.v.kind) (.int .i64 r.v.n) (.string r.v.s)⟩)) (h2 := ?_)
 refine qd undef [boxW qvb1 r.v.kind r.v.n r.v.s, boxX qeb2 r.nm r.ar.kind r.ar.n r.ar.s r.has] (h1 := fun Wx hSw => by (have hz := hSw.box (b := qeb2) (o := objE) 1 rfl; refine useZ5 hz fun z0 z1 z2 z3 z4 y0 y1 y2 y3 y4 => ?_; go_simp; exact ⟨rfl, hSw.set5 1 rfl (.string r.nm) (.int .i64 r.ar.kind) (.int .i64 r.ar.n) (.string r.ar.s) (.bool r.has)⟩)) (h2 := ?_)
 refine doneL (h := fun w12 S => ?_)
 replace S : Sep w (boxW qvb1 r.v.kind r.v.n r.v.s :: boxX qeb2 r.nm r.ar.kind r.ar.n r.ar.s r.has :: boxW qva1 r.v.kind r.v.n r.v.s :: boxX qea2 r.nm r.ar.kind r.ar.n r.ar.s r.has :: boxV qvk1 k :: boxV qvi1 i :: boxV qvv1 v :: heapR h H :: refR y H :: boxR q3 (.cells #[.int .i64 x0.kind, .int .i64 x0.n, .string x0.s, .int .i64 x1.kind, .int .i64 x1.n, .string x1.s, .int .i64 x2.kind, .int .i64 x2.n, .string x2.s] 43) :: []) w12 := by rw [Hb9_10.out] at S; exact S
 clear Hb9_10 Kb9_10 K9_3 Cb9_10_0 Cb9_10_1
 replace S : Sep w (heapR h H :: boxW qvb1 r.v.kind r.v.n r.v.s :: boxX qeb2 r.nm r.ar.kind r.ar.n r.ar.s r.has :: boxW qva1 r.v.kind r.v.n r.v.s :: boxX qea2 r.nm r.ar.kind r.ar.n r.ar.s r.has :: boxV qvk1 k :: boxV qvi1 i :: boxV qvv1 v :: refR y H :: boxR q3 (.cells #[.int .i64 x0.kind, .int .i64 x0.n, .string x0.s, .int .i64 x1.kind, .int .i64 x1.n, .string x1.s, .int .i64 x2.kind, .int .i64 x2.n, .string x2.s] 43) :: []) (w12) := by
  refine (show Sep w ([boxW qvb1 r.v.kind r.v.n r.v.s, boxX qeb2 r.nm r.ar.kind r.ar.n r.ar.s r.has, boxW qva1 r.v.kind r.v.n r.v.s, boxX qea2 r.nm r.ar.kind r.ar.n r.ar.s r.has, boxV qvk1 k, boxV qvi1 i, boxV qvv1 v, heapR h H, refR y H, boxR q3 (.cells #[.int .i64 x0.kind, .int .i64 x0.n, .string x0.s, .int .i64 x1.kind, .int .i64 x1.n, .string x1.s, .int .i64 x2.kind, .int .i64 x2.n, .string x2.s] 43)] ++ []) _ from S).perm ?_
  exact List.Perm.append_right [] (perm_of (l := [boxW qvb1 r.v.kind r.v.n r.v.s, boxX qeb2 r.nm r.ar.kind r.ar.n r.ar.s r.has, boxW qva1 r.v.kind r.v.n r.v.s, boxX qea2 r.nm r.ar.kind r.ar.n r.ar.s r.has, boxV qvk1 k, boxV qvi1 i, boxV qvv1 v, heapR h H, refR y H, boxR q3 (.cells #[.int .i64 x0.kind, .int .i64 x0.n, .string x0.s, .int .i64 x1.kind, .int .i64 x1.n, .string x1.s, .int .i64 x2.kind, .int .i64 x2.n, .string x2.s] 43)]) [7, 0, 1, 2, 3, 4, 5, 6, 8, 9] (by show (List.range' 0 10).Perm [7, 0, 1, 2, 3, 4, 5, 6, 8, 9]; decide) (by rfl))
 refine named (boxW qvb1 r.v.kind r.v.n r.v.s :: boxX qeb2 r.nm r.ar.kind r.ar.n r.ar.s r.has :: boxW qva1 r.v.kind r.v.n r.v.s :: boxX qea2 r.nm r.ar.kind r.ar.n r.ar.s r.has :: boxV qvk1 k :: boxV qvi1 i :: boxV qvv1 v :: refR y H :: boxR q3 (.cells #[.int .i64 x0.kind, .int .i64 x0.n, .string x0.s, .int .i64 x1.kind, .int .i64 x1.n, .string x1.s, .int .i64 x2.kind, .int .i64 x2.n, .string x2.s] 43) :: [] : List Res) fun b10_12 hb10_12 => ?_
 have Hb10_12 := Lib.hid hb10_12
 have Kb10_12 : Hid (∀ W (Q : List Res), Sep w (Q ++ b10_12) W → True) := Lib.hid fun W Q T => by
  rw [hb10_12] at T
  trivial
 have Cb10_12_0 := baseC3 (w := w) (b := qvi1) hb10_12 5 rfl
 have Cb10_12_1 := baseC3 (w := w) (b := qvk1) hb10_12 4 rfl
 have Cb10_12_2 := baseC3 (w := w) (b := qvv1) hb10_12 6 rfl
 replace S := Lib.hid S
 clear hb10_12
 go_upto_region 10 with fail
 have S1 : Sep w ([heapR h H] ++ b10_12) (w12) := by rw [Hb10_12.out]; exact S.out
 clear S
 refine regionL (E := [emptyR, emptyR, heapR h H]) (base := b10_12) (Sep.putE (Sep.putE S1)) ?_
 clear S1
 refine qa ?_
 refine qc Cb10_12_2 ?_
 refine qc Cb10_12_0 ?_
 refine qc Cb10_12_1 ?_
 refine qd (.tuple #[.agg #[.int .i64 s.v.kind, .int .i64 s.v.n, .string s.v.s], .agg #[.string s.nm, .int .i64 s.ar.kind, .int .i64 s.ar.n, .string s.ar.s, .bool s.has]]) [emptyR, emptyR, heapR h H1] (h1 := fun Wx hSw => by (go_simp; refine symCall ?_; exact sl_any hSw 2 rfl HF.out (by decide) v i k hlo s HSA.out H1 HH1.out)) (h2 := ?_)
 iterate 3 refine qa ?_
 refine allocL 0 rfl (fun q => .pointer (some ⟨q, 0, none⟩)) (.cells #[.int .i64 0, .int .i64 0, .string ⟨#[]⟩] 24) (h1 := fun Wx => by go_simp) (h2 := fun qvc2 => ?_); simp only [Act.put, pa]; try dsimp only [List.set]
 try simp only [List.set_cons_zero, List.set_cons_succ]
 refine allocL 1 rfl (fun q => .pointer (some ⟨q, 0, none⟩)) (.cells #[.string ⟨#[]⟩, .int .i64 0, .int .i64 0, .string ⟨#[]⟩, .bool false] 33) (h1 := fun Wx => by go_simp) (h2 := fun qec3 => ?_); simp only [Act.put, pa]; try dsimp only [List.set]
 try simp only [List.set_cons_zero, List.set_cons_succ]
 refine qd undef [boxW qvc2 s.v.kind s.v.n s.v.s, boxE qec3, heapR h H1] (h1 := fun Wx hSw => by (have hz := hSw.box (b := qvc2) (o := objZ) 0 rfl; refine useZ3 hz fun z0 z1 z2 y0 y1 y2 => ?_; go_simp; exact ⟨rfl, hSw.set3 0 rfl (.int .i64 s.v.kind) (.int .i64 s.v.n) (.string s.v.s)⟩)) (h2 := ?_)
 refine qd undef [boxW qvc2 s.v.kind s.v.n s.v.s, boxX qec3 s.nm s.ar.kind s.ar.n s.ar.s s.has, heapR h H1] (h1 := fun Wx hSw => by (have hz := hSw.box (b := qec3) (o := objE) 1 rfl; refine useZ5 hz fun z0 z1 z2 z3 z4 y0 y1 y2 y3 y4 => ?_; go_simp; exact ⟨rfl, hSw.set5 1 rfl (.string s.nm) (.int .i64 s.ar.kind) (.int .i64 s.ar.n) (.string s.ar.s) (.bool s.has)⟩)) (h2 := ?_)
 refine doneL (h := fun w14 S => ?_)
 replace S : Sep w (boxW qvc2 s.v.kind s.v.n s.v.s :: boxX qec3 s.nm s.ar.kind s.ar.n s.ar.s s.has :: heapR h H1 :: boxW qvb1 r.v.kind r.v.n r.v.s :: boxX qeb2 r.nm r.ar.kind r.ar.n r.ar.s r.has :: boxW qva1 r.v.kind r.v.n r.v.s :: boxX qea2 r.nm r.ar.kind r.ar.n r.ar.s r.has :: boxV qvk1 k :: boxV qvi1 i :: boxV qvv1 v :: refR y H :: boxR q3 (.cells #[.int .i64 x0.kind, .int .i64 x0.n, .string x0.s, .int .i64 x1.kind, .int .i64 x1.n, .string x1.s, .int .i64 x2.kind, .int .i64 x2.n, .string x2.s] 43) :: []) w14 := by rw [Hb10_12.out] at S; exact S
 clear Hb10_12 Kb10_12 Cb10_12_0 Cb10_12_1 Cb10_12_2
 replace S : Sep w (refR y H :: boxW qvc2 s.v.kind s.v.n s.v.s :: boxX qec3 s.nm s.ar.kind s.ar.n s.ar.s s.has :: heapR h H1 :: boxW qvb1 r.v.kind r.v.n r.v.s :: boxX qeb2 r.nm r.ar.kind r.ar.n r.ar.s r.has :: boxW qva1 r.v.kind r.v.n r.v.s :: boxX qea2 r.nm r.ar.kind r.ar.n r.ar.s r.has :: boxV qvk1 k :: boxV qvi1 i :: boxV qvv1 v :: boxR q3 (.cells #[.int .i64 x0.kind, .int .i64 x0.n, .string x0.s, .int .i64 x1.kind, .int .i64 x1.n, .string x1.s, .int .i64 x2.kind, .int .i64 x2.n, .string x2.s] 43) :: []) (w14) := by
  refine (show Sep w ([boxW qvc2 s.v.kind s.v.n s.v.s, boxX qec3 s.nm s.ar.kind s.ar.n s.ar.s s.has, heapR h H1, boxW qvb1 r.v.kind r.v.n r.v.s, boxX qeb2 r.nm r.ar.kind r.ar.n r.ar.s r.has, boxW qva1 r.v.kind r.v.n r.v.s, boxX qea2 r.nm r.ar.kind r.ar.n r.ar.s r.has, boxV qvk1 k, boxV qvi1 i, boxV qvv1 v, refR y H, boxR q3 (.cells #[.int .i64 x0.kind, .int .i64 x0.n, .string x0.s, .int .i64 x1.kind, .int .i64 x1.n, .string x1.s, .int .i64 x2.kind, .int .i64 x2.n, .string x2.s] 43)] ++ []) _ from S).perm ?_
  exact List.Perm.append_right [] (perm_of (l := [boxW qvc2 s.v.kind s.v.n s.v.s, boxX qec3 s.nm s.ar.kind s.ar.n s.ar.s s.has, heapR h H1, boxW qvb1 r.v.kind r.v.n r.v.s, boxX qeb2 r.nm r.ar.kind r.ar.n r.ar.s r.has, boxW qva1 r.v.kind r.v.n r.v.s, boxX qea2 r.nm r.ar.kind r.ar.n r.ar.s r.has, boxV qvk1 k, boxV qvi1 i, boxV qvv1 v, refR y H, boxR q3 (.cells #[.int .i64 x0.kind, .int .i64 x0.n, .string x0.s, .int .i64 x1.kind, .int .i64 x1.n, .string x1.s, .int .i64 x2.kind, .int .i64 x2.n, .string x2.s] 43)]) [10, 0, 1, 2, 3, 4, 5, 6, 7, 8, 9, 11] (by show (List.range' 0 12).Perm [10, 0, 1, 2, 3, 4, 5, 6, 7, 8, 9, 11]; decide) (by rfl))
 refine named (boxW qvc2 s.v.kind s.v.n s.v.s :: boxX qec3 s.nm s.ar.kind s.ar.n s.ar.s s.has :: heapR h H1 :: boxW qvb1 r.v.kind r.v.n r.v.s :: boxX qeb2 r.nm r.ar.kind r.ar.n r.ar.s r.has :: boxW qva1 r.v.kind r.v.n r.v.s :: boxX qea2 r.nm r.ar.kind r.ar.n r.ar.s r.has :: boxV qvk1 k :: boxV qvi1 i :: boxV qvv1 v :: boxR q3 (.cells #[.int .i64 x0.kind, .int .i64 x0.n, .string x0.s, .int .i64 x1.kind, .int .i64 x1.n, .string x1.s, .int .i64 x2.kind, .int .i64 x2.n, .string x2.s] 43) :: [] : List Res) fun b11_14 hb11_14 => ?_
 have Hb11_14 := Lib.hid hb11_14
 have Kb11_14 : Hid (∀ W (Q : List Res), Sep w (Q ++ b11_14) W → True) := Lib.hid fun W Q T => by
  rw [hb11_14] at T
  trivial
 have Cb11_14_0 := baseC3 (w := w) (b := qvi1) hb11_14 8 rfl
 have Cb11_14_1 := baseC3 (w := w) (b := qvk1) hb11_14 7 rfl
 have Cb11_14_2 := baseC3 (w := w) (b := qvv1) hb11_14 9 rfl
 replace S := Lib.hid S
 clear hb11_14
 go_upto_region 11 with fail
 have S1 : Sep w ([refR y H] ++ b11_14) (w14) := by rw [Hb11_14.out]; exact S.out
 clear S
 refine regionL (E := [emptyR, emptyR, refR y H]) (base := b11_14) (Sep.putE (Sep.putE S1)) ?_
 clear S1
 refine qa ?_
 refine qc Cb11_14_2 ?_
 refine qc Cb11_14_0 ?_
 refine qc Cb11_14_1 ?_
 refine qd (.tuple #[.agg #[.int .i64 s.v.kind, .int .i64 s.v.n, .string s.v.s], .agg #[.string s.nm, .int .i64 s.ar.kind, .int .i64 s.ar.n, .string s.ar.s, .bool s.has]]) [emptyR, emptyR, refR y H1] (h1 := fun Wx hSw => by (go_simp; refine symCall ?_; exact rsl_ok hSw 2 rfl HF.out (by decide) v i k hlo s HSA.out H1 HH1.out)) (h2 := ?_)
 iterate 3 refine qa ?_
 refine allocL 0 rfl (fun q => .pointer (some ⟨q, 0, none⟩)) (.cells #[.int .i64 0, .int .i64 0, .string ⟨#[]⟩] 24) (h1 := fun Wx => by go_simp) (h2 := fun qvd2 => ?_); simp only [Act.put, pa]; try dsimp only [List.set]
 try simp only [List.set_cons_zero, List.set_cons_succ]
 refine allocL 1 rfl (fun q => .pointer (some ⟨q, 0, none⟩)) (.cells #[.string ⟨#[]⟩, .int .i64 0, .int .i64 0, .string ⟨#[]⟩, .bool false] 33) (h1 := fun Wx => by go_simp) (h2 := fun qed3 => ?_); simp only [Act.put, pa]; try dsimp only [List.set]
 try simp only [List.set_cons_zero, List.set_cons_succ]
 refine qd undef [boxW qvd2 s.v.kind s.v.n s.v.s, boxE qed3, refR y H1] (h1 := fun Wx hSw => by (have hz := hSw.box (b := qvd2) (o := objZ) 0 rfl; refine useZ3 hz fun z0 z1 z2 y0 y1 y2 => ?_; go_simp; exact ⟨rfl, hSw.set3 0 rfl (.int .i64 s.v.kind) (.int .i64 s.v.n) (.string s.v.s)⟩)) (h2 := ?_)
 refine qd undef [boxW qvd2 s.v.kind s.v.n s.v.s, boxX qed3 s.nm s.ar.kind s.ar.n s.ar.s s.has, refR y H1] (h1 := fun Wx hSw => by (have hz := hSw.box (b := qed3) (o := objE) 1 rfl; refine useZ5 hz fun z0 z1 z2 z3 z4 y0 y1 y2 y3 y4 => ?_; go_simp; exact ⟨rfl, hSw.set5 1 rfl (.string s.nm) (.int .i64 s.ar.kind) (.int .i64 s.ar.n) (.string s.ar.s) (.bool s.has)⟩)) (h2 := ?_)
 refine doneL (h := fun w16 S => ?_)
 replace S : Sep w (boxW qvd2 s.v.kind s.v.n s.v.s :: boxX qed3 s.nm s.ar.kind s.ar.n s.ar.s s.has :: refR y H1 :: boxW qvc2 s.v.kind s.v.n s.v.s :: boxX qec3 s.nm s.ar.kind s.ar.n s.ar.s s.has :: heapR h H1 :: boxW qvb1 r.v.kind r.v.n r.v.s :: boxX qeb2 r.nm r.ar.kind r.ar.n r.ar.s r.has :: boxW qva1 r.v.kind r.v.n r.v.s :: boxX qea2 r.nm r.ar.kind r.ar.n r.ar.s r.has :: boxV qvk1 k :: boxV qvi1 i :: boxV qvv1 v :: boxR q3 (.cells #[.int .i64 x0.kind, .int .i64 x0.n, .string x0.s, .int .i64 x1.kind, .int .i64 x1.n, .string x1.s, .int .i64 x2.kind, .int .i64 x2.n, .string x2.s] 43) :: []) w16 := by rw [Hb11_14.out] at S; exact S
 clear Hb11_14 Kb11_14 Cb11_14_0 Cb11_14_1 Cb11_14_2
 refine named (boxW qvd2 s.v.kind s.v.n s.v.s :: boxX qed3 s.nm s.ar.kind s.ar.n s.ar.s s.has :: refR y H1 :: boxW qvc2 s.v.kind s.v.n s.v.s :: boxX qec3 s.nm s.ar.kind s.ar.n s.ar.s s.has :: heapR h H1 :: boxW qvb1 r.v.kind r.v.n r.v.s :: boxX qeb2 r.nm r.ar.kind r.ar.n r.ar.s r.has :: boxW qva1 r.v.kind r.v.n r.v.s :: boxX qea2 r.nm r.ar.kind r.ar.n r.ar.s r.has :: boxV qvk1 k :: boxV qvi1 i :: boxV qvv1 v :: boxR q3 (.cells #[.int .i64 x0.kind, .int .i64 x0.n, .string x0.s, .int .i64 x1.kind, .int .i64 x1.n, .string x1.s, .int .i64 x2.kind, .int .i64 x2.n, .string x2.s] 43) :: [] : List Res) fun b12_16 hb12_16 => ?_
 have Hb12_16 := Lib.hid hb12_16
 have Kb12_16 : Hid (∀ W (Q : List Res), Sep w (Q ++ b12_16) W → True) := Lib.hid fun W Q T => by
  rw [hb12_16] at T
  trivial
 have Cb12_16_0 := baseC5 (w := w) (b := qea2) hb12_16 9 rfl
 have Cb12_16_1 := baseC5 (w := w) (b := qeb2) hb12_16 7 rfl
 have Cb12_16_2 := baseC5 (w := w) (b := qec3) hb12_16 4 rfl
 have Cb12_16_3 := baseC5 (w := w) (b := qed3) hb12_16 1 rfl
 have Cb12_16_4 := baseC3 (w := w) (b := qva1) hb12_16 8 rfl
 have Cb12_16_5 := baseC3 (w := w) (b := qvb1) hb12_16 6 rfl
 have Cb12_16_6 := baseC3 (w := w) (b := qvc2) hb12_16 3 rfl
 have Cb12_16_7 := baseC3 (w := w) (b := qvd2) hb12_16 0 rfl
 have K12_21 : QuietC w b12_16 16 #[hpV h, .pointer (some ⟨y, 0, none⟩)] (.bool true) := Lib.hid fun W Q T => by
  rw [Hb12_16.out] at T ⊢
  exact alike16_at T (Q.length + 5) (Q.length + 2) (atR rfl) (atR rfl) (by omega) HF1.out (by decide)
 replace S := Lib.hid S
 clear hb12_16
 go_upto_region 12 with fail
 have S1 : Sep w ([] ++ b12_16) (w16) := by rw [Hb12_16.out]; exact S.out
 clear S
 refine regionL (E := []) (base := b12_16) S1 ?_
 clear S1
 refine qc Cb12_16_4 ?_
 refine qc Cb12_16_5 ?_
 iterate 2 refine qa ?_
 refine qc Cb12_16_0 ?_
 refine qc Cb12_16_1 ?_
 iterate 3 refine qa ?_
 refine qc Cb12_16_6 ?_
 refine qc Cb12_16_7 ?_
 iterate 3 refine qa ?_
 refine qc Cb12_16_2 ?_
 refine qc Cb12_16_3 ?_
 iterate 5 refine qa ?_
 refine qk K12_21 ?_
 iterate 2 refine qa ?_
 refine doneL (h := fun w18 S => ?_)
 replace S : Sep w (boxW qvd2 s.v.kind s.v.n s.v.s :: boxX qed3 s.nm s.ar.kind s.ar.n s.ar.s s.has :: refR y H1 :: boxW qvc2 s.v.kind s.v.n s.v.s :: boxX qec3 s.nm s.ar.kind s.ar.n s.ar.s s.has :: heapR h H1 :: boxW qvb1 r.v.kind r.v.n r.v.s :: boxX qeb2 r.nm r.ar.kind r.ar.n r.ar.s r.has :: boxW qva1 r.v.kind r.v.n r.v.s :: boxX qea2 r.nm r.ar.kind r.ar.n r.ar.s r.has :: boxV qvk1 k :: boxV qvi1 i :: boxV qvv1 v :: boxR q3 (.cells #[.int .i64 x0.kind, .int .i64 x0.n, .string x0.s, .int .i64 x1.kind, .int .i64 x1.n, .string x1.s, .int .i64 x2.kind, .int .i64 x2.n, .string x2.s] 43) :: []) w18 := by rw [Hb12_16.out] at S; exact S
 clear Hb12_16 Kb12_16 K12_21 Cb12_16_0 Cb12_16_1 Cb12_16_2 Cb12_16_3 Cb12_16_4 Cb12_16_5 Cb12_16_6 Cb12_16_7
 replace S : Sep w (heapR h H1 :: refR y H1 :: boxW qvd2 s.v.kind s.v.n s.v.s :: boxX qed3 s.nm s.ar.kind s.ar.n s.ar.s s.has :: boxW qvc2 s.v.kind s.v.n s.v.s :: boxX qec3 s.nm s.ar.kind s.ar.n s.ar.s s.has :: boxW qvb1 r.v.kind r.v.n r.v.s :: boxX qeb2 r.nm r.ar.kind r.ar.n r.ar.s r.has :: boxW qva1 r.v.kind r.v.n r.v.s :: boxX qea2 r.nm r.ar.kind r.ar.n r.ar.s r.has :: boxV qvk1 k :: boxV qvi1 i :: boxV qvv1 v :: boxR q3 (.cells #[.int .i64 x0.kind, .int .i64 x0.n, .string x0.s, .int .i64 x1.kind, .int .i64 x1.n, .string x1.s, .int .i64 x2.kind, .int .i64 x2.n, .string x2.s] 43) :: []) (w18) := by
  refine (show Sep w ([boxW qvd2 s.v.kind s.v.n s.v.s, boxX qed3 s.nm s.ar.kind s.ar.n s.ar.s s.has, refR y H1, boxW qvc2 s.v.kind s.v.n s.v.s, boxX qec3 s.nm s.ar.kind s.ar.n s.ar.s s.has, heapR h H1, boxW qvb1 r.v.kind r.v.n r.v.s, boxX qeb2 r.nm r.ar.kind r.ar.n r.ar.s r.has, boxW qva1 r.v.kind r.v.n r.v.s, boxX qea2 r.nm r.ar.kind r.ar.n r.ar.s r.has, boxV qvk1 k, boxV qvi1 i, boxV qvv1 v, boxR q3 (.cells #[.int .i64 x0.kind, .int .i64 x0.n, .string x0.s, .int .i64 x1.kind, .int .i64 x1.n, .string x1.s, .int .i64 x2.kind, .int .i64 x2.n, .string x2.s] 43)] ++ []) _ from S).perm ?_
  exact List.Perm.append_right [] (perm_of (l := [boxW qvd2 s.v.kind s.v.n s.v.s, boxX qed3 s.nm s.ar.kind s.ar.n s.ar.s s.has, refR y H1, boxW qvc2 s.v.kind s.v.n s.v.s, boxX qec3 s.nm s.ar.kind s.ar.n s.ar.s s.has, heapR h H1, boxW qvb1 r.v.kind r.v.n r.v.s, boxX qeb2 r.nm r.ar.kind r.ar.n r.ar.s r.has, boxW qva1 r.v.kind r.v.n r.v.s, boxX qea2 r.nm r.ar.kind r.ar.n r.ar.s r.has, boxV qvk1 k, boxV qvi1 i, boxV qvv1 v, boxR q3 (.cells #[.int .i64 x0.kind, .int .i64 x0.n, .string x0.s, .int .i64 x1.kind, .int .i64 x1.n, .string x1.s, .int .i64 x2.kind, .int .i64 x2.n, .string x2.s] 43)]) [5, 2, 0, 1, 3, 4, 6, 7, 8, 9, 10, 11, 12, 13] (by show (List.range' 0 14).Perm [5, 2, 0, 1, 3, 4, 6, 7, 8, 9, 10, 11, 12, 13]; decide) (by rfl))
 refine named (boxW qvd2 s.v.kind s.v.n s.v.s :: boxX qed3 s.nm s.ar.kind s.ar.n s.ar.s s.has :: boxW qvc2 s.v.kind s.v.n s.v.s :: boxX qec3 s.nm s.ar.kind s.ar.n s.ar.s s.has :: boxW qvb1 r.v.kind r.v.n r.v.s :: boxX qeb2 r.nm r.ar.kind r.ar.n r.ar.s r.has :: boxW qva1 r.v.kind r.v.n r.v.s :: boxX qea2 r.nm r.ar.kind r.ar.n r.ar.s r.has :: boxV qvk1 k :: boxV qvi1 i :: boxV qvv1 v :: boxR q3 (.cells #[.int .i64 x0.kind, .int .i64 x0.n, .string x0.s, .int .i64 x1.kind, .int .i64 x1.n, .string x1.s, .int .i64 x2.kind, .int .i64 x2.n, .string x2.s] 43) :: [] : List Res) fun b14_18 hb14_18 => ?_
 have Hb14_18 := Lib.hid hb14_18
 have Kb14_18 : Hid (∀ W (Q : List Res), Sep w (Q ++ b14_18) W → True) := Lib.hid fun W Q T => by
  rw [hb14_18] at T
  trivial
 have Cb14_18_0 := baseC3 (w := w) (b := qvi1) hb14_18 9 rfl
 have Cb14_18_1 := baseC3 (w := w) (b := qvk1) hb14_18 8 rfl
 have Cb14_18_2 := baseC3 (w := w) (b := qvv1) hb14_18 10 rfl
 replace S := Lib.hid S
 clear hb14_18
 go_upto_region 14 with fail
 have S1 : Sep w ([heapR h H1, refR y H1] ++ b14_18) (w18) := by rw [Hb14_18.out]; exact S.out
 clear S
 refine regionP 4 13 (E := [heapR h H1, refR y H1]) (base := b14_18) S1 ?_
 clear S1
 refine qp ?_
 refine qpc Cb14_18_2 ?_
 refine qpc Cb14_18_0 ?_
 refine qpc Cb14_18_1 ?_
 refine endP ?_
 refine qs 5 ?_
 refine qsc 6 Cb14_18_2 ?_
 refine qsc 7 Cb14_18_0 ?_
 refine qsc 8 Cb14_18_1 ?_
 refine readyS [4] ?_
 refine detS (.agg #[.string t.nm, .int .i64 t.ar.kind, .int .i64 t.ar.n, .string t.ar.s, .bool t.has]) [heapR h H2, refR y H1] (h1 := fun Wx hSw => by (go_simp; refine symCall ?_; exact si_any hSw 0 rfl HF1.out (by decide) v i k t HT.out H2 HH2.out)) (h2 := ?_) (hs := nilS); simp only [Act.put, pa]; try dsimp only [List.set]
 refine readyS [9] ?_
 refine detS (.agg #[.string t.nm, .int .i64 t.ar.kind, .int .i64 t.ar.n, .string t.ar.s, .bool t.has]) [heapR h H2, refR y H2] (h1 := fun Wx hSw => by (go_simp; refine symCall ?_; exact rset_ok hSw 1 rfl HF1.out (by decide) v i k t HT.out H2 HH2.out)) (h2 := ?_) (hs := nilS); simp only [Act.put, pa]; try dsimp only [List.set]
 refine qs 10 ?_
 refine qs 11 ?_
 refine qs 12 ?_
 refine qs 13 ?_
 refine readyS [14] ?_
 refine detS (.bool true) [heapR h H2, refR y H2] (h1 := fun Wx hSw => by (go_simp; refine symCall ?_; exact alike16_at hSw 0 1 rfl rfl (by decide) HF2.out (by decide))) (h2 := ?_) (hs := nilS); simp only [Act.put, pa]; try dsimp only [List.set]
 refine qs 15 ?_
 refine qs 16 ?_
 refine doneS (h := fun w20 S => ?_)
 replace S : Sep w (heapR h H2 :: refR y H2 :: boxW qvd2 s.v.kind s.v.n s.v.s :: boxX qed3 s.nm s.ar.kind s.ar.n s.ar.s s.has :: boxW qvc2 s.v.kind s.v.n s.v.s :: boxX qec3 s.nm s.ar.kind s.ar.n s.ar.s s.has :: boxW qvb1 r.v.kind r.v.n r.v.s :: boxX qeb2 r.nm r.ar.kind r.ar.n r.ar.s r.has :: boxW qva1 r.v.kind r.v.n r.v.s :: boxX qea2 r.nm r.ar.kind r.ar.n r.ar.s r.has :: boxV qvk1 k :: boxV qvi1 i :: boxV qvv1 v :: boxR q3 (.cells #[.int .i64 x0.kind, .int .i64 x0.n, .string x0.s, .int .i64 x1.kind, .int .i64 x1.n, .string x1.s, .int .i64 x2.kind, .int .i64 x2.n, .string x2.s] 43) :: []) w20 := by rw [Hb14_18.out] at S; exact S
 clear Hb14_18 Kb14_18 Cb14_18_0 Cb14_18_1 Cb14_18_2
 replace S : Sep w (heapR h H2 :: refR y H2 :: boxW qvd2 s.v.kind s.v.n s.v.s :: boxX qed3 s.nm s.ar.kind s.ar.n s.ar.s s.has :: boxW qvc2 s.v.kind s.v.n s.v.s :: boxX qec3 s.nm s.ar.kind s.ar.n s.ar.s s.has :: boxW qvb1 r.v.kind r.v.n r.v.s :: boxX qeb2 r.nm r.ar.kind r.ar.n r.ar.s r.has :: boxW qva1 r.v.kind r.v.n r.v.s :: boxX qea2 r.nm r.ar.kind r.ar.n r.ar.s r.has :: boxV qvk1 k :: boxV qvi1 i :: boxV qvv1 v :: boxR q3 (.cells #[.int .i64 x0.kind, .int .i64 x0.n, .string x0.s, .int .i64 x1.kind, .int .i64 x1.n, .string x1.s, .int .i64 x2.kind, .int .i64 x2.n, .string x2.s] 43) :: []) (w20) := by
  refine (show Sep w ([heapR h H2, refR y H2, boxW qvd2 s.v.kind s.v.n s.v.s, boxX qed3 s.nm s.ar.kind s.ar.n s.ar.s s.has, boxW qvc2 s.v.kind s.v.n s.v.s, boxX qec3 s.nm s.ar.kind s.ar.n s.ar.s s.has, boxW qvb1 r.v.kind r.v.n r.v.s, boxX qeb2 r.nm r.ar.kind r.ar.n r.ar.s r.has, boxW qva1 r.v.kind r.v.n r.v.s, boxX qea2 r.nm r.ar.kind r.ar.n r.ar.s r.has, boxV qvk1 k, boxV qvi1 i, boxV qvv1 v, boxR q3 (.cells #[.int .i64 x0.kind, .int .i64 x0.n, .string x0.s, .int .i64 x1.kind, .int .i64 x1.n, .string x1.s, .int .i64 x2.kind, .int .i64 x2.n, .string x2.s] 43)] ++ []) _ from S).perm ?_
  exact List.Perm.append_right [] (perm_of (l := [heapR h H2, refR y H2, boxW qvd2 s.v.kind s.v.n s.v.s, boxX qed3 s.nm s.ar.kind s.ar.n s.ar.s s.has, boxW qvc2 s.v.kind s.v.n s.v.s, boxX qec3 s.nm s.ar.kind s.ar.n s.ar.s s.has, boxW qvb1 r.v.kind r.v.n r.v.s, boxX qeb2 r.nm r.ar.kind r.ar.n r.ar.s r.has, boxW qva1 r.v.kind r.v.n r.v.s, boxX qea2 r.nm r.ar.kind r.ar.n r.ar.s r.has, boxV qvk1 k, boxV qvi1 i, boxV qvv1 v, boxR q3 (.cells #[.int .i64 x0.kind, .int .i64 x0.n, .string x0.s, .int .i64 x1.kind, .int .i64 x1.n, .string x1.s, .int .i64 x2.kind, .int .i64 x2.n, .string x2.s] 43)]) [0, 1, 2, 3, 4, 5, 6, 7, 8, 9, 10, 11, 12, 13] (by show (List.range' 0 14).Perm [0, 1, 2, 3, 4, 5, 6, 7, 8, 9, 10, 11, 12, 13]; decide) (by rfl))
 refine named (boxW qvd2 s.v.kind s.v.n s.v.s :: boxX qed3 s.nm s.ar.kind s.ar.n s.ar.s s.has :: boxW qvc2 s.v.kind s.v.n s.v.s :: boxX qec3 s.nm s.ar.kind s.ar.n s.ar.s s.has :: boxW qvb1 r.v.kind r.v.n r.v.s :: boxX qeb2 r.nm r.ar.kind r.ar.n r.ar.s r.has :: boxW qva1 r.v.kind r.v.n r.v.s :: boxX qea2 r.nm r.ar.kind r.ar.n r.ar.s r.has :: boxV qvk1 k :: boxV qvi1 i :: boxV qvv1 v :: boxR q3 (.cells #[.int .i64 x0.kind, .int .i64 x0.n, .string x0.s, .int .i64 x1.kind, .int .i64 x1.n, .string x1.s, .int .i64 x2.kind, .int .i64 x2.n, .string x2.s] 43) :: [] : List Res) fun b16_20 hb16_20 => ?_
 have Hb16_20 := Lib.hid hb16_20
 have Kb16_20 : Hid (∀ W (Q : List Res), Sep w (Q ++ b16_20) W → True) := Lib.hid fun W Q T => by
  rw [hb16_20] at T
  trivial
 have Cb16_20_0 := baseC3 (w := w) (b := qvi1) hb16_20 9 rfl
 have Cb16_20_1 := baseC3 (w := w) (b := qvv1) hb16_20 10 rfl
 replace S := Lib.hid S
 clear hb16_20
 go_upto_region 16 with fail
 have S1 : Sep w ([heapR h H2, refR y H2] ++ b16_20) (w20) := by rw [Hb16_20.out]; exact S.out
 clear S
 refine regionP 3 12 (E := [heapR h H2, refR y H2]) (base := b16_20) S1 ?_
 clear S1
 refine qp ?_
 refine qpc Cb16_20_1 ?_
 refine qpc Cb16_20_0 ?_
 refine endP ?_
 refine qs 4 ?_
 refine qsc 5 Cb16_20_1 ?_
 refine qsc 6 Cb16_20_0 ?_
 refine readyS [3] ?_
 refine detS (.agg #[.string d.nm, .int .i64 d.ar.kind, .int .i64 d.ar.n, .string d.ar.s, .bool d.has]) [heapR h H3, refR y H2] (h1 := fun Wx hSw => by (go_simp; refine symCall ?_; exact di_any hSw 0 rfl HF2.out (by decide) v i d HD.out H3 HH3.out)) (h2 := ?_) (hs := nilS); simp only [Act.put, pa]; try dsimp only [List.set]
 refine readyS [7] ?_
 refine detS (.agg #[.string d.nm, .int .i64 d.ar.kind, .int .i64 d.ar.n, .string d.ar.s, .bool d.has]) [heapR h H3, refR y H3] (h1 := fun Wx hSw => by (go_simp; refine symCall ?_; exact rdel_ok hSw 1 rfl HF2.out (by decide) v i d HD.out H3 HH3.out)) (h2 := ?_) (hs := nilS); simp only [Act.put, pa]; try dsimp only [List.set]
 refine qs 8 ?_
 refine qs 9 ?_
 refine qs 10 ?_
 refine qs 11 ?_
 refine readyS [12] ?_
 refine detS (.bool true) [heapR h H3, refR y H3] (h1 := fun Wx hSw => by (go_simp; refine symCall ?_; exact alike16_at hSw 0 1 rfl rfl (by decide) HF3.out (by decide))) (h2 := ?_) (hs := nilS); simp only [Act.put, pa]; try dsimp only [List.set]
 refine qs 13 ?_
 refine qs 14 ?_
 refine doneS (h := fun w22 S => ?_)
 replace S : Sep w (heapR h H3 :: refR y H3 :: boxW qvd2 s.v.kind s.v.n s.v.s :: boxX qed3 s.nm s.ar.kind s.ar.n s.ar.s s.has :: boxW qvc2 s.v.kind s.v.n s.v.s :: boxX qec3 s.nm s.ar.kind s.ar.n s.ar.s s.has :: boxW qvb1 r.v.kind r.v.n r.v.s :: boxX qeb2 r.nm r.ar.kind r.ar.n r.ar.s r.has :: boxW qva1 r.v.kind r.v.n r.v.s :: boxX qea2 r.nm r.ar.kind r.ar.n r.ar.s r.has :: boxV qvk1 k :: boxV qvi1 i :: boxV qvv1 v :: boxR q3 (.cells #[.int .i64 x0.kind, .int .i64 x0.n, .string x0.s, .int .i64 x1.kind, .int .i64 x1.n, .string x1.s, .int .i64 x2.kind, .int .i64 x2.n, .string x2.s] 43) :: []) w22 := by rw [Hb16_20.out] at S; exact S
 clear Hb16_20 Kb16_20 Cb16_20_0 Cb16_20_1
 replace S := Lib.hid S.below
 go_wp2
 go_ret
 exact ⟨rfl, by rw [← HQ3.out]; exact S.out⟩
theorem lifted (os : Os) (started : os.Started) (H : Type) (enc : TypeId × Value → H) :
  ReturnsInHanded {} Tryz.checked os 4 .any (Rows.operateIndexSpec.pre6 enc Tryz.prog Tryz.f4 Rows.operateIndexRow.domain false) (Rows.operateIndexSpec.post enc Tryz.prog Tryz.f4 false true false false) := by
 refine law_lift (C := Tryz.checked) own started (by kernel_rfl) Tryz.func4
  (ChangeSpec.witness6 (enc := enc) (C := Tryz.checked) false ⟨#[], #[.slice none 0 0, .agg #[.int .i64 0, .int .i64 0, .string ⟨#[]⟩, .int .i64 0, .int .i64 0, .string ⟨#[]⟩, .int .i64 0, .int .i64 0, .string ⟨#[]⟩]], []⟩ 8 (by kernel_rfl) (by kernel_rfl) (by kernel_rfl) (by kernel_rfl))
  (by kernel_rfl) (by kernel_rfl) rfl (fun ds h => by
   match ds, h with
   | [d1, d2], _ => exact ⟨rfl, rfl, rfl⟩) rfl Tryz.underlying4 ?_
 intro W base args ds ps hval hA hlt hwt hsh
 rw [Tryz.params4] at hA hval
 obtain ⟨v0, vs0, d0, ds0, p0, q0, hargs, rfl, rfl, h0, r0⟩ := trodAll_cons hA
 obtain ⟨v1, vs1, d1, ds1, p1, q1, rfl, rfl, rfl, h1, r1⟩ := trodAll_cons r0
 obtain ⟨rfl, rfl, rfl⟩ := trodAll_nil r1
 obtain rfl : args = #[v0, v1] := by cases args; simp_all
 obtain ⟨x0, len0, cap0, rfl⟩ := okWide_slice Tryz.underlying22 (hval 0 22 v0 rfl rfl)
 obtain ⟨fuel0, hf0⟩ := h0
 obtain ⟨l0, s0⟩ := open_objs (v := .slice x0 len0 cap0) hf0
 obtain ⟨cs1, rfl, hsz1⟩ := okWide_array Tryz.underlying43 (hval 1 43 v1 rfl rfl)
 obtain ⟨fuel1, hf1⟩ := h1
 obtain ⟨p1x, e1⟩ := trip_of_trod (cs := cs1.toList) hf1
 obtain rfl : cs1 = (tripC p1x).toArray := by rw [← e1]
 -- WALK
 exact walk W _ l0 s0 p1x.1 p1x.2.1 p1x.2.2
theorem proved : Rows.OperateIndexSaid :=
 OpenClaim.holds_of_wide 4 Tryz.f4 rfl rfl rfl rfl rfl rfl rfl ⟨rfl, rfl, rfl, rfl, rfl⟩ rfl rfl rfl rfl rfl (by kernel_rfl) Tryz.func4 (by kernel_rfl)
  (of_decide_eq_true (by kernel_rfl)) (by unfold Func.isWrapper; first | (rw [if_pos (by decide +kernel)]; kernel_rfl) | (rw [if_neg (by decide +kernel)]; exact ⟨rfl, rfl⟩))
  (fun os started H enc _ => lifted os started H enc)
#print axioms proved
end Go.Proofs.YtijlebhoapdfnaaGreat.operateIndex
