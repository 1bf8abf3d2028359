/-
  OperateIn: for any objects and any two values, the law returns true: a value is in a row just if it is equal to one of its items, a str in another one just if it stands there. No condition.
-/
import Derived.Test.YtellmfimmghidaaGreatShownP
import Derived.Test.YtellmfimmghidaaGreatFrame
import Derived.Test.YtellmfimmghidaaGreatMade16
import Derived.Test.YtellmfimmghidaaGreatInR
import Derived.Lib.IndexMore
import Derived.Test.YtellmfimmghidaaGreatOprO
import Derived.Test.YtellmfimmghidaaGreatTellE
/- ch 16: what multiply, Neg and Bin refuse; Truth. -/
namespace Go.Proofs.YtellmfimmghidaaGreat
set_option linter.unusedSimpArgs false
open Go.RowKit
set_option linter.unusedVariables false
section
variable {w W : World} {Rs : List Res} {h : Nat} {H : HeapM}
end
end Go.Proofs.YtellmfimmghidaaGreat
/- ch 16: values that are no objects: told, and the same. -/
namespace Go.Proofs.YtellmfimmghidaaGreat
set_option linter.unusedSimpArgs false
open Go.RowKit
set_option linter.unusedVariables false
theorem HeapM.kind_no (H : HeapM) (v : V) (h : ¬ v.kind = 4) : H.kind v = 0 := Classical.byContradiction fun e => h (H.kind_ref v e)
section
variable {w W : World} {Rs : List Res} {h : Nat} {H : HeapM}
end
end Go.Proofs.YtellmfimmghidaaGreat
namespace Go.Proofs.YtellmfimmghidaaGreat.operateIn
set_option linter.unusedSimpArgs false
open Go.ChangeShapes Go.WideShapes Go.ChangeAt Go.RowKit
open Go.ChangeMaps (open_string)
set_option linter.unusedVariables false
attribute [local irreducible] wpSeqS wpAnyS wpPreS
theorem plain_size (x : V) : (plainV x).s.size ≤ 8 := by
  show (x.s.extract 0 (min x.s.size 8)).size ≤ 8
  rw [ByteArray.size_extract]; omega
/-- Whether it stands at one of the first places. -/
def thereN (s sub : ByteArray) : Nat → Bool
  | 0 => false
  | i + 1 => thereN s sub i || decide (s.extract i (i + sub.size) = sub)
theorem there_iff {s sub : ByteArray} : ∀ {i : Nat}, thereN s sub i = true ↔ ∃ j, j < i ∧ s.extract j (j + sub.size) = sub
  | 0 => by simp [thereN]
  | i + 1 => by
    rw [thereN, Bool.or_eq_true, there_iff (i := i), decide_eq_true_eq]
    constructor
    · rintro (⟨j, h1, h2⟩ | h)
      · exact ⟨j, by omega, h2⟩
      · exact ⟨i, by omega, h⟩
    · rintro ⟨j, h1, h2⟩
      by_cases e : j = i
      · subst e; exact .inr h2
      · exact .inl ⟨j, by omega, h2⟩
theorem occ_extract {s sub : ByteArray} {j : Nat} : s.extract j (j + sub.size) = sub ↔ (s.data.toList.drop j).take sub.data.toList.length = sub.data.toList := by
  have e : (s.extract j (j + sub.size)).data.toList = (s.data.toList.drop j).take sub.data.toList.length := by
    rw [ByteArray.data_extract, Array.toList_extract, List.extract_eq_take_drop, Nat.add_sub_cancel_left]
    rfl
  constructor
  · intro h; rw [← e, h]
  · intro h; rw [← e] at h; exact ByteArray.ext (Array.toList_inj.1 h)
theorem eqS (x y : ByteArray) : (x.toList == y.toList) = decide (x = y) := by
  by_cases h : x = y
  · subst h; simp
  · have : ¬ x.toList = y.toList := fun e => h (by rw [ByteArray.toList_eq, ByteArray.toList_eq] at e; exact ByteArray.ext (Array.toList_inj.1 e))
    rw [decide_eq_false h]; simpa using this
theorem there_end {s sub : ByteArray} {i : Nat} (h1 : s.size < i + sub.size) (h2 : i ≤ s.size + 1) : thereN s sub i = decide (0 ≤ Lib.index s.data.toList sub.data.toList) := by
  have key : thereN s sub i = true ↔ 0 ≤ Lib.index s.data.toList sub.data.toList := by
    rw [there_iff]
    rcases Lib.index_spec s.data.toList sub.data.toList with ⟨e, hno⟩ | ⟨j, e, hj, ho, _⟩
    · constructor
      · rintro ⟨j, h3, h4⟩
        have h5 := hno j (by show j ≤ s.size; omega)
        rw [occ_extract] at h4
        unfold Lib.occAt at h5
        have h6 : sub.data.toList <+: s.data.toList.drop j := by rw [List.prefix_iff_eq_take]; exact h4.symm
        rw [List.isPrefixOf_iff_prefix.2 h6] at h5; cases h5
      · intro h; omega
    · constructor
      · intro _; omega
      · intro h
        have h3 := Lib.index_room _ _ h
        rw [e] at h3
        refine ⟨j, ?_, ?_⟩
        · have a : s.data.toList.length = s.size := rfl
          have b : sub.data.toList.length = sub.size := rfl
          omega
        · rw [occ_extract]
          unfold Lib.occAt at ho
          exact (List.prefix_iff_eq_take.1 (List.isPrefixOf_iff_prefix.1 ho)).symm
  cases h : thereN s sub i <;> simp_all
set_option maxRecDepth 100000 in
set_option maxHeartbeats 12800000 in
theorem walk_k (w : World) (sl : Value) (l : List ObjI) (hs : SeesO w sl l) (x0 x1 : V) (m : Int) (hm : w.cell? ⟨0, 0, none⟩ = some (.int .i64 m)) (bb : Bool) (hq : (madeO l).inC (plainV x0) (plainV x1) = .ok bb) :
    Calls Tryz.prog 8 #[sl, .agg #[.int .i64 x0.kind, .int .i64 x0.n, .string x0.s, .int .i64 x1.kind, .int .i64 x1.n, .string x1.s]] w fun e W' => e = .returned (.bool true) ∧ Below w.heap.size w W' := by
  obtain ⟨a, ha⟩ : ∃ a, a = plainV x0 := ⟨_, rfl⟩
  obtain ⟨b, hb⟩ : ∃ b, b = plainV x1 := ⟨_, rfl⟩
  obtain ⟨H, hH⟩ : ∃ H, H = madeO l := ⟨_, rfl⟩
  rw [← ha, ← hb, ← hH] at hq
  obtain ⟨n1, n2, hne, hv1, hv2, ht1, hf1⟩ : ∃ n1 n2 : Int, n1 ≠ n2 ∧ cmpV (.ok bb) false = .tuple #[.agg #[.int .i64 1, .int .i64 n1, .string ⟨#[]⟩], excZ] ∧ cmpV (.ok bb) true = .tuple #[.agg #[.int .i64 1, .int .i64 n2, .string ⟨#[]⟩], excZ] ∧ (bb = true → n1 = 1) ∧ (bb = false → n1 = 0) := by
    cases bb
    · exact ⟨0, 1, by decide, rfl, rfl, by simp, by simp⟩
    · exact ⟨1, 0, by decide, rfl, rfl, by simp, by simp⟩
  have HV1 := Lib.hid hv1
  have HV2 := Lib.hid hv2
  have HNE := Lib.hid hne
  have HT1 := Lib.hid ht1
  have HF1 := Lib.hid hf1
  clear hv1 hv2 hne ht1 hf1
  have HF : Hid (H.Fit 200) := Lib.hid (by rw [hH]; exact madeO_fit hs.2)
  have HSZ : Hid (b.s.size < 4294967281) := Lib.hid (by rw [hb]; have := plain_size x1; omega)
  have Ha_ := Lib.hid ha
  have Hb_ := Lib.hid hb
  have HH_ := Lib.hid hH
  have HQ := Lib.hid hq
  have HM := Lib.hid hm
  have HS := Lib.hid hs
  have S := Sep.start (Below.refl w.heap.size w)
  obtain ⟨q3, hq3⟩ : ∃ gx_, (w.heap.size) = gx_ := ⟨_, rfl⟩
  replace S := S.alloc (.cells #[.int .i64 x0.kind, .int .i64 x0.n, .string x0.s, .int .i64 x1.kind, .int .i64 x1.n, .string x1.s] 34)
  rw [hq3] at S ⊢
  have M0 := Lib.hid (shown_ok S)
  clear S ha hb hH hq hm hs
  go_enter Tryz.func8, Tryz.ntmps8
  go_upto_region 1 with fail
  try simp only [hq3]
  have HQ3 := Lib.hid hq3
  clear hq3
  go_wp2_with fail
  refine M0.out.mono ?_
  rintro e w1 ⟨rfl, S⟩
  clear M0
  have M := Lib.hid (made16_ok S sl l HS.out)
  clear S
  go_wp2_with fail
  refine M.out.mono ?_
  rintro e w2 ⟨h, y, rfl, S⟩
  clear M
  rw [← HH_.out] at S
  replace S : Sep w (heapR h H :: refR y H :: boxR q3 (.cells #[.int .i64 x0.kind, .int .i64 x0.n, .string x0.s, .int .i64 x1.kind, .int .i64 x1.n, .string x1.s] 34) :: []) _ := S
  refine named (heapR h H :: refR y H :: boxR q3 (.cells #[.int .i64 x0.kind, .int .i64 x0.n, .string x0.s, .int .i64 x1.kind, .int .i64 x1.n, .string x1.s] 34) :: [] : List Res) fun b5_2 hb5_2 => ?_
  have Hb5_2 := Lib.hid hb5_2
  have Kb5_2 : Hid (∀ W (Q : List Res), Sep w (Q ++ b5_2) W → True) := Lib.hid fun W Q T => by
    rw [hb5_2] at T
    trivial
  have Cb5_2_0 : Hid (∀ W (Q : List Res), Sep w (Q ++ b5_2) W → W.cell? ⟨q3, 0, none⟩ = some (.int .i64 x0.kind) ∧ W.cell? ⟨q3, 1, none⟩ = some (.int .i64 x0.n) ∧ W.cell? ⟨q3, 2, none⟩ = some (.string x0.s) ∧ W.cell? ⟨q3, 3, none⟩ = some (.int .i64 x1.kind) ∧ W.cell? ⟨q3, 4, none⟩ = some (.int .i64 x1.n) ∧ W.cell? ⟨q3, 5, none⟩ = some (.string x1.s)) := Lib.hid fun W Q T => by
    rw [hb5_2] at T
    have i0 := T.box (b := q3) (o := .cells #[.int .i64 x0.kind, .int .i64 x0.n, .string x0.s, .int .i64 x1.kind, .int .i64 x1.n, .string x1.s] 34) (Q.length + 2) (atR rfl)
    exact ⟨cellAt i0 0 rfl, cellAt i0 1 rfl, cellAt i0 2 rfl, cellAt i0 3 rfl, cellAt i0 4 rfl, cellAt i0 5 rfl⟩
  have K5_2 : KC w b5_2 28 #[agV x0] (.agg #[.int .i64 a.kind, .int .i64 a.n, .string a.s]) := Lib.hid fun W Q T => by
    rw [Hb5_2.out] at T ⊢
    exact (by have hh := lplain_ok T x0; rw [← Ha_.out] at hh; exact hh)
  replace S := Lib.hid S
  clear hb5_2
  go_upto_region 5 with fail
  have S1 : Sep w ([] ++ b5_2) (w2) := by rw [Hb5_2.out]; exact S.out
  clear S
  refine regionL (E := [emptyR]) (base := b5_2) (Sep.putE S1) ?_
  clear S1
  refine quietL ?_
  simp only [Act.put, pa]; try dsimp only [List.set]
  refine quietL (hy := fun E Wx hSw => by ((obtain ⟨u0, u1, u2, u3, u4, u5⟩ := Cb5_2_0.out _ _ hSw); go_simp; exact ⟨rfl, hSw⟩)) (h := ?_)
  simp only [Act.put, pa]; try dsimp only [List.set]
  refine quietLK K5_2 ?_
  simp only [Act.put, pa]; try dsimp only [List.set]
  refine allocL 0 rfl (fun q => .pointer (some ⟨q, 0, none⟩)) (.cells #[.int .i64 0, .int .i64 0, .string ⟨#[]⟩] 29) (h1 := fun Wx => by go_simp) (h2 := fun qa81 => ?_)
  simp only [Act.put, pa]; try dsimp only [List.set]
  try simp only [List.set_cons_zero, List.set_cons_succ]
  refine detL undef [boxV qa81 a] (h1 := fun Wx hSw => by (have hz := hSw.box (b := qa81) (o := objZ) 0 rfl; refine useZ3 hz fun z0 z1 z2 y0 y1 y2 => ?_; go_simp; exact ⟨rfl, hSw.set3 0 rfl (.int .i64 a.kind) (.int .i64 a.n) (.string a.s)⟩)) (h2 := ?_)
  simp only [Act.put, pa]; try dsimp only [List.set]
  refine doneL (h := fun w4 S => ?_)
  replace S : Sep w (boxV qa81 a :: heapR h H :: refR y H :: boxR q3 (.cells #[.int .i64 x0.kind, .int .i64 x0.n, .string x0.s, .int .i64 x1.kind, .int .i64 x1.n, .string x1.s] 34) :: []) w4 := by rw [Hb5_2.out] at S; exact S
  clear Hb5_2 Kb5_2 K5_2 Cb5_2_0
  refine named (boxV qa81 a :: heapR h H :: refR y H :: boxR q3 (.cells #[.int .i64 x0.kind, .int .i64 x0.n, .string x0.s, .int .i64 x1.kind, .int .i64 x1.n, .string x1.s] 34) :: [] : List Res) fun b6_4 hb6_4 => ?_
  have Hb6_4 := Lib.hid hb6_4
  have Kb6_4 : Hid (∀ W (Q : List Res), Sep w (Q ++ b6_4) W → True) := Lib.hid fun W Q T => by
    rw [hb6_4] at T
    trivial
  have Cb6_4_0 : Hid (∀ W (Q : List Res), Sep w (Q ++ b6_4) W → W.cell? ⟨q3, 0, none⟩ = some (.int .i64 x0.kind) ∧ W.cell? ⟨q3, 1, none⟩ = some (.int .i64 x0.n) ∧ W.cell? ⟨q3, 2, none⟩ = some (.string x0.s) ∧ W.cell? ⟨q3, 3, none⟩ = some (.int .i64 x1.kind) ∧ W.cell? ⟨q3, 4, none⟩ = some (.int .i64 x1.n) ∧ W.cell? ⟨q3, 5, none⟩ = some (.string x1.s)) := Lib.hid fun W Q T => by
    rw [hb6_4] at T
    have i0 := T.box (b := q3) (o := .cells #[.int .i64 x0.kind, .int .i64 x0.n, .string x0.s, .int .i64 x1.kind, .int .i64 x1.n, .string x1.s] 34) (Q.length + 3) (atR rfl)
    exact ⟨cellAt i0 0 rfl, cellAt i0 1 rfl, cellAt i0 2 rfl, cellAt i0 3 rfl, cellAt i0 4 rfl, cellAt i0 5 rfl⟩
  have K6_2 : KC w b6_4 28 #[agV x1] (.agg #[.int .i64 b.kind, .int .i64 b.n, .string b.s]) := Lib.hid fun W Q T => by
    rw [Hb6_4.out] at T ⊢
    exact (by have hh := lplain_ok T x1; rw [← Hb_.out] at hh; exact hh)
  replace S := Lib.hid S
  clear hb6_4
  go_upto_region 6 with fail
  have S1 : Sep w ([] ++ b6_4) (w4) := by rw [Hb6_4.out]; exact S.out
  clear S
  refine regionL (E := [emptyR]) (base := b6_4) (Sep.putE S1) ?_
  clear S1
  refine quietL ?_
  simp only [Act.put, pa]; try dsimp only [List.set]
  refine quietL (hy := fun E Wx hSw => by ((obtain ⟨u0, u1, u2, u3, u4, u5⟩ := Cb6_4_0.out _ _ hSw); go_simp; exact ⟨rfl, hSw⟩)) (h := ?_)
  simp only [Act.put, pa]; try dsimp only [List.set]
  refine quietLK K6_2 ?_
  simp only [Act.put, pa]; try dsimp only [List.set]
  refine allocL 0 rfl (fun q => .pointer (some ⟨q, 0, none⟩)) (.cells #[.int .i64 0, .int .i64 0, .string ⟨#[]⟩] 29) (h1 := fun Wx => by go_simp) (h2 := fun qb91 => ?_)
  simp only [Act.put, pa]; try dsimp only [List.set]
  try simp only [List.set_cons_zero, List.set_cons_succ]
  refine detL undef [boxV qb91 b] (h1 := fun Wx hSw => by (have hz := hSw.box (b := qb91) (o := objZ) 0 rfl; refine useZ3 hz fun z0 z1 z2 y0 y1 y2 => ?_; go_simp; exact ⟨rfl, hSw.set3 0 rfl (.int .i64 b.kind) (.int .i64 b.n) (.string b.s)⟩)) (h2 := ?_)
  simp only [Act.put, pa]; try dsimp only [List.set]
  refine doneL (h := fun w6 S => ?_)
  replace S : Sep w (boxV qb91 b :: boxV qa81 a :: heapR h H :: refR y H :: boxR q3 (.cells #[.int .i64 x0.kind, .int .i64 x0.n, .string x0.s, .int .i64 x1.kind, .int .i64 x1.n, .string x1.s] 34) :: []) w6 := by rw [Hb6_4.out] at S; exact S
  clear Hb6_4 Kb6_4 K6_2 Cb6_4_0
  refine named (boxV qb91 b :: boxV qa81 a :: heapR h H :: refR y H :: boxR q3 (.cells #[.int .i64 x0.kind, .int .i64 x0.n, .string x0.s, .int .i64 x1.kind, .int .i64 x1.n, .string x1.s] 34) :: [] : List Res) fun b7_6 hb7_6 => ?_
  have Hb7_6 := Lib.hid hb7_6
  have Kb7_6 : Hid (∀ W (Q : List Res), Sep w (Q ++ b7_6) W → True) := Lib.hid fun W Q T => by
    rw [hb7_6] at T
    trivial
  have Cb7_6_0 := baseC3 (w := w) (b := qa81) hb7_6 1 rfl
  have Cb7_6_1 := baseC3 (w := w) (b := qb91) hb7_6 0 rfl
  have K7_3 : KC w b7_6 18 #[hpV h, .string ⟨#[105, 110]⟩, agV a, agV b] (.tuple #[.agg #[.int .i64 1, .int .i64 n1, .string ⟨#[]⟩], excZ]) := Lib.hid fun W Q T => by
    rw [Hb7_6.out] at T ⊢
    exact (by have hh := cmp_isin HF.out.G (by decide) a b HSZ.out m HM.out T (Q.length + 2) (atR rfl); rw [HQ.out, HV1.out] at hh; exact hh)
  replace S := Lib.hid S
  clear hb7_6
  go_upto_region 7 with fail
  have S1 : Sep w ([] ++ b7_6) (w6) := by rw [Hb7_6.out]; exact S.out
  clear S
  refine regionL (E := [emptyR, emptyR]) (base := b7_6) (Sep.putE (Sep.putE S1)) ?_
  clear S1
  refine quietL ?_
  simp only [Act.put, pa]; try dsimp only [List.set]
  refine quietLC Cb7_6_0 ?_
  simp only [Act.put, pa]; try dsimp only [List.set]
  refine quietLC Cb7_6_1 ?_
  simp only [Act.put, pa]; try dsimp only [List.set]
  refine quietLK K7_3 ?_
  simp only [Act.put, pa]; try dsimp only [List.set]
  iterate 3 (refine quietL ?_; simp only [Act.put, pa]; try dsimp only [List.set])
  refine allocL 0 rfl (fun q => .pointer (some ⟨q, 0, none⟩)) (.cells #[.int .i64 0, .int .i64 0, .string ⟨#[]⟩] 29) (h1 := fun Wx => by go_simp) (h2 := fun qv71 => ?_)
  simp only [Act.put, pa]; try dsimp only [List.set]
  try simp only [List.set_cons_zero, List.set_cons_succ]
  refine allocL 1 rfl (fun q => .pointer (some ⟨q, 0, none⟩)) (.cells #[.string ⟨#[]⟩, .int .i64 0, .int .i64 0, .string ⟨#[]⟩, .bool false] 38) (h1 := fun Wx => by go_simp) (h2 := fun qe72 => ?_)
  simp only [Act.put, pa]; try dsimp only [List.set]
  try simp only [List.set_cons_zero, List.set_cons_succ]
  refine detL undef [boxW qv71 1 n1 ⟨#[]⟩, boxE qe72] (h1 := fun Wx hSw => by (have hz := hSw.box (b := qv71) (o := objZ) 0 rfl; refine useZ3 hz fun z0 z1 z2 y0 y1 y2 => ?_; go_simp; exact ⟨rfl, hSw.set3 0 rfl (.int .i64 1) (.int .i64 n1) (.string ⟨#[]⟩)⟩)) (h2 := ?_)
  simp only [Act.put, pa]; try dsimp only [List.set]
  refine detL undef [boxW qv71 1 n1 ⟨#[]⟩, boxE qe72] (h1 := fun Wx hSw => by (have hz := hSw.box (b := qe72) (o := objE) 1 rfl; refine useZ5 hz fun z0 z1 z2 z3 z4 y0 y1 y2 y3 y4 => ?_; go_simp; exact ⟨rfl, hSw.set5 1 rfl (.string ⟨#[]⟩) (.int .i64 0) (.int .i64 0) (.string ⟨#[]⟩) (.bool false)⟩)) (h2 := ?_)
  simp only [Act.put, pa]; try dsimp only [List.set]
  refine doneL (h := fun w8 S => ?_)
  replace S : Sep w (boxW qv71 1 n1 ⟨#[]⟩ :: boxE qe72 :: boxV qb91 b :: boxV qa81 a :: heapR h H :: refR y H :: boxR q3 (.cells #[.int .i64 x0.kind, .int .i64 x0.n, .string x0.s, .int .i64 x1.kind, .int .i64 x1.n, .string x1.s] 34) :: []) w8 := by rw [Hb7_6.out] at S; exact S
  clear Hb7_6 Kb7_6 K7_3 Cb7_6_0 Cb7_6_1
  refine named (boxW qv71 1 n1 ⟨#[]⟩ :: boxE qe72 :: boxV qb91 b :: boxV qa81 a :: heapR h H :: refR y H :: boxR q3 (.cells #[.int .i64 x0.kind, .int .i64 x0.n, .string x0.s, .int .i64 x1.kind, .int .i64 x1.n, .string x1.s] 34) :: [] : List Res) fun b8_8 hb8_8 => ?_
  have Hb8_8 := Lib.hid hb8_8
  have Kb8_8 : Hid (∀ W (Q : List Res), Sep w (Q ++ b8_8) W → True) := Lib.hid fun W Q T => by
    rw [hb8_8] at T
    trivial
  have Cb8_8_0 := baseC3 (w := w) (b := qa81) hb8_8 3 rfl
  have Cb8_8_1 := baseC3 (w := w) (b := qb91) hb8_8 2 rfl
  have K8_3 : KC w b8_8 18 #[hpV h, .string ⟨#[110, 111, 116, 32, 105, 110]⟩, agV a, agV b] (.tuple #[.agg #[.int .i64 1, .int .i64 n2, .string ⟨#[]⟩], excZ]) := Lib.hid fun W Q T => by
    rw [Hb8_8.out] at T ⊢
    exact (by have hh := cmp_notin HF.out.G (by decide) a b HSZ.out m HM.out T (Q.length + 4) (atR rfl); rw [HQ.out, HV2.out] at hh; exact hh)
  replace S := Lib.hid S
  clear hb8_8
  go_upto_region 8 with fail
  have S1 : Sep w ([] ++ b8_8) (w8) := by rw [Hb8_8.out]; exact S.out
  clear S
  refine regionL (E := [emptyR, emptyR]) (base := b8_8) (Sep.putE (Sep.putE S1)) ?_
  clear S1
  refine quietL ?_
  simp only [Act.put, pa]; try dsimp only [List.set]
  refine quietLC Cb8_8_0 ?_
  simp only [Act.put, pa]; try dsimp only [List.set]
  refine quietLC Cb8_8_1 ?_
  simp only [Act.put, pa]; try dsimp only [List.set]
  refine quietLK K8_3 ?_
  simp only [Act.put, pa]; try dsimp only [List.set]
  iterate 3 (refine quietL ?_; simp only [Act.put, pa]; try dsimp only [List.set])
  refine allocL 0 rfl (fun q => .pointer (some ⟨q, 0, none⟩)) (.cells #[.int .i64 0, .int .i64 0, .string ⟨#[]⟩] 29) (h1 := fun Wx => by go_simp) (h2 := fun qv81 => ?_)
  simp only [Act.put, pa]; try dsimp only [List.set]
  try simp only [List.set_cons_zero, List.set_cons_succ]
  refine allocL 1 rfl (fun q => .pointer (some ⟨q, 0, none⟩)) (.cells #[.string ⟨#[]⟩, .int .i64 0, .int .i64 0, .string ⟨#[]⟩, .bool false] 38) (h1 := fun Wx => by go_simp) (h2 := fun qe82 => ?_)
  simp only [Act.put, pa]; try dsimp only [List.set]
  try simp only [List.set_cons_zero, List.set_cons_succ]
  refine detL undef [boxW qv81 1 n2 ⟨#[]⟩, boxE qe82] (h1 := fun Wx hSw => by (have hz := hSw.box (b := qv81) (o := objZ) 0 rfl; refine useZ3 hz fun z0 z1 z2 y0 y1 y2 => ?_; go_simp; exact ⟨rfl, hSw.set3 0 rfl (.int .i64 1) (.int .i64 n2) (.string ⟨#[]⟩)⟩)) (h2 := ?_)
  simp only [Act.put, pa]; try dsimp only [List.set]
  refine detL undef [boxW qv81 1 n2 ⟨#[]⟩, boxE qe82] (h1 := fun Wx hSw => by (have hz := hSw.box (b := qe82) (o := objE) 1 rfl; refine useZ5 hz fun z0 z1 z2 z3 z4 y0 y1 y2 y3 y4 => ?_; go_simp; exact ⟨rfl, hSw.set5 1 rfl (.string ⟨#[]⟩) (.int .i64 0) (.int .i64 0) (.string ⟨#[]⟩) (.bool false)⟩)) (h2 := ?_)
  simp only [Act.put, pa]; try dsimp only [List.set]
  refine doneL (h := fun w10 S => ?_)
  replace S : Sep w (boxW qv81 1 n2 ⟨#[]⟩ :: boxE qe82 :: boxW qv71 1 n1 ⟨#[]⟩ :: boxE qe72 :: boxV qb91 b :: boxV qa81 a :: heapR h H :: refR y H :: boxR q3 (.cells #[.int .i64 x0.kind, .int .i64 x0.n, .string x0.s, .int .i64 x1.kind, .int .i64 x1.n, .string x1.s] 34) :: []) w10 := by rw [Hb8_8.out] at S; exact S
  clear Hb8_8 Kb8_8 K8_3 Cb8_8_0 Cb8_8_1
  have hne := HNE.out
  have hneb : (n1 == n2) = false := by simpa using hne
  refine named (boxW qv81 1 n2 ⟨#[]⟩ :: boxE qe82 :: boxW qv71 1 n1 ⟨#[]⟩ :: boxE qe72 :: boxV qb91 b :: boxV qa81 a :: heapR h H :: refR y H :: boxR q3 (.cells #[.int .i64 x0.kind, .int .i64 x0.n, .string x0.s, .int .i64 x1.kind, .int .i64 x1.n, .string x1.s] 34) :: [] : List Res) fun b9_10 hb9_10 => ?_
  have Hb9_10 := Lib.hid hb9_10
  have Kb9_10 : Hid (∀ W (Q : List Res), Sep w (Q ++ b9_10) W → True) := Lib.hid fun W Q T => by
    rw [hb9_10] at T
    trivial
  have Cb9_10_0 := baseC5 (w := w) (b := qe72) hb9_10 3 rfl
  have Cb9_10_1 := baseC5 (w := w) (b := qe82) hb9_10 1 rfl
  have Cb9_10_2 := baseC3 (w := w) (b := qv71) hb9_10 2 rfl
  have Cb9_10_3 := baseC3 (w := w) (b := qv81) hb9_10 0 rfl
  have K9_5 : KC w b9_10 19 #[excZ] (.bool true) := Lib.hid fun W Q T => by
    exact (none_z W).mono fun e W' ⟨e1, e2⟩ => ⟨e1, T.later e2⟩
  replace S := Lib.hid S
  clear hb9_10
  go_upto_region 9 with fail
  have S1 : Sep w ([] ++ b9_10) (w10) := by rw [Hb9_10.out]; exact S.out
  clear S
  refine regionL (E := []) (base := b9_10) S1 ?_
  clear S1
  refine quietLC Cb9_10_0 ?_
  simp only [Act.put, pa]; try dsimp only [List.set]
  refine quietLC Cb9_10_1 ?_
  simp only [Act.put, pa]; try dsimp only [List.set]
  iterate 2 (refine quietL ?_; simp only [Act.put, pa]; try dsimp only [List.set])
  refine quietLC Cb9_10_0 ?_
  simp only [Act.put, pa]; try dsimp only [List.set]
  refine quietLK K9_5 ?_
  simp only [Act.put, pa]; try dsimp only [List.set]
  refine quietL ?_
  simp only [Act.put, pa]; try dsimp only [List.set]
  refine quietLC Cb9_10_2 ?_
  simp only [Act.put, pa]; try dsimp only [List.set]
  refine quietLC Cb9_10_3 ?_
  simp only [Act.put, pa]; try dsimp only [List.set]
  iterate 3 (refine quietL ?_; simp only [Act.put, pa]; try dsimp only [List.set])
  refine quietLC Cb9_10_2 ?_
  simp only [Act.put, pa]; try dsimp only [List.set]
  iterate 4 (refine quietL ?_; simp only [Act.put, pa]; try dsimp only [List.set])
  refine quietLC Cb9_10_3 ?_
  simp only [Act.put, pa]; try dsimp only [List.set]
  iterate 4 (refine quietL ?_; simp only [Act.put, pa]; try dsimp only [List.set])
  refine doneL (h := fun w12 S => ?_)
  replace S : Sep w (boxW qv81 1 n2 ⟨#[]⟩ :: boxE qe82 :: boxW qv71 1 n1 ⟨#[]⟩ :: boxE qe72 :: boxV qb91 b :: boxV qa81 a :: heapR h H :: refR y H :: boxR q3 (.cells #[.int .i64 x0.kind, .int .i64 x0.n, .string x0.s, .int .i64 x1.kind, .int .i64 x1.n, .string x1.s] 34) :: []) w12 := by rw [Hb9_10.out] at S; exact S
  clear Hb9_10 Kb9_10 K9_5 Cb9_10_0 Cb9_10_1 Cb9_10_2 Cb9_10_3
  obtain ⟨kb, hkb⟩ : ∃ k, H.kind b = k := ⟨_, rfl⟩
  have HKB := Lib.hid hkb
  clear hkb
  clear hne hneb
  refine named (boxW qv81 1 n2 ⟨#[]⟩ :: boxE qe82 :: boxW qv71 1 n1 ⟨#[]⟩ :: boxE qe72 :: boxV qb91 b :: boxV qa81 a :: heapR h H :: refR y H :: boxR q3 (.cells #[.int .i64 x0.kind, .int .i64 x0.n, .string x0.s, .int .i64 x1.kind, .int .i64 x1.n, .string x1.s] 34) :: [] : List Res) fun b11_12 hb11_12 => ?_
  have Hb11_12 := Lib.hid hb11_12
  have Kb11_12 : Hid (∀ W (Q : List Res), Sep w (Q ++ b11_12) W → True) := Lib.hid fun W Q T => by
    rw [hb11_12] at T
    trivial
  have Cb11_12_0 := baseC3 (w := w) (b := qb91) hb11_12 4 rfl
  have K11_2 : KC w b11_12 30 #[hpV h, agV b] (.int .i64 kb) := Lib.hid fun W Q T => by
    rw [Hb11_12.out] at T ⊢
    exact kind_at T (Q.length + 6) (atR rfl) b kb HKB.out
  replace S := Lib.hid S
  clear hb11_12
  go_upto_region 11 with fail
  have S1 : Sep w ([] ++ b11_12) (w12) := by rw [Hb11_12.out]; exact S.out
  clear S
  refine regionL (E := []) (base := b11_12) S1 ?_
  clear S1
  refine quietL ?_
  simp only [Act.put, pa]; try dsimp only [List.set]
  refine quietLC Cb11_12_0 ?_
  simp only [Act.put, pa]; try dsimp only [List.set]
  refine quietLK K11_2 ?_
  simp only [Act.put, pa]; try dsimp only [List.set]
  refine quietL ?_
  simp only [Act.put, pa]; try dsimp only [List.set]
  refine doneL (h := fun w14 S => ?_)
  replace S : Sep w (boxW qv81 1 n2 ⟨#[]⟩ :: boxE qe82 :: boxW qv71 1 n1 ⟨#[]⟩ :: boxE qe72 :: boxV qb91 b :: boxV qa81 a :: heapR h H :: refR y H :: boxR q3 (.cells #[.int .i64 x0.kind, .int .i64 x0.n, .string x0.s, .int .i64 x1.kind, .int .i64 x1.n, .string x1.s] 34) :: []) w14 := by rw [Hb11_12.out] at S; exact S
  clear Hb11_12 Kb11_12 K11_2 Cb11_12_0
  by_cases hss : b.kind = 3 ∧ a.kind = 3
  · have HKD := Lib.hid hss
    clear hss
    have hk0 : kb = 0 := by rw [← HKB.out]; exact H.kind_no b (by rw [HKD.out.1]; decide)
    have hkk : ¬ kb = 1 ∧ ¬ kb = 2 := by omega
    obtain ⟨hk1, hk2⟩ := hkk
    have hk1b : (kb == 1) = false := by simpa using hk1
    have hk2b : (kb == 2) = false := by simpa using hk2
    refine named (boxW qv81 1 n2 ⟨#[]⟩ :: boxE qe82 :: boxW qv71 1 n1 ⟨#[]⟩ :: boxE qe72 :: boxV qb91 b :: boxV qa81 a :: heapR h H :: refR y H :: boxR q3 (.cells #[.int .i64 x0.kind, .int .i64 x0.n, .string x0.s, .int .i64 x1.kind, .int .i64 x1.n, .string x1.s] 34) :: [] : List Res) fun b12_14 hb12_14 => ?_
    have Hb12_14 := Lib.hid hb12_14
    have Kb12_14 : Hid (∀ W (Q : List Res), Sep w (Q ++ b12_14) W → True) := Lib.hid fun W Q T => by
      rw [hb12_14] at T
      trivial
    replace S := Lib.hid S
    clear hb12_14
    go_upto_region 12 with fail
    have S1 : Sep w ([] ++ b12_14) (w14) := by rw [Hb12_14.out]; exact S.out
    clear S
    refine regionL (E := []) (base := b12_14) S1 ?_
    clear S1
    iterate 6 (refine quietL ?_; simp only [Act.put, pa]; try dsimp only [List.set])
    refine doneL (h := fun w16 S => ?_)
    replace S : Sep w (boxW qv81 1 n2 ⟨#[]⟩ :: boxE qe82 :: boxW qv71 1 n1 ⟨#[]⟩ :: boxE qe72 :: boxV qb91 b :: boxV qa81 a :: heapR h H :: refR y H :: boxR q3 (.cells #[.int .i64 x0.kind, .int .i64 x0.n, .string x0.s, .int .i64 x1.kind, .int .i64 x1.n, .string x1.s] 34) :: []) w16 := by rw [Hb12_14.out] at S; exact S
    clear Hb12_14 Kb12_14
    clear hk1 hk2 hk1b hk2b
    have hb3 : (b.kind != 3) = false := by simp [HKD.out.1]
    have ha3 : (a.kind != 3) = false := by simp [HKD.out.2]
    refine named (boxW qv81 1 n2 ⟨#[]⟩ :: boxE qe82 :: boxW qv71 1 n1 ⟨#[]⟩ :: boxE qe72 :: boxV qb91 b :: boxV qa81 a :: heapR h H :: refR y H :: boxR q3 (.cells #[.int .i64 x0.kind, .int .i64 x0.n, .string x0.s, .int .i64 x1.kind, .int .i64 x1.n, .string x1.s] 34) :: [] : List Res) fun b23_16 hb23_16 => ?_
    have Hb23_16 := Lib.hid hb23_16
    have Kb23_16 : Hid (∀ W (Q : List Res), Sep w (Q ++ b23_16) W → True) := Lib.hid fun W Q T => by
      rw [hb23_16] at T
      trivial
    have Cb23_16_0 := baseC3 (w := w) (b := qb91) hb23_16 4 rfl
    replace S := Lib.hid S
    clear hb23_16
    go_upto_region 23 with fail
    have S1 : Sep w ([] ++ b23_16) (w16) := by rw [Hb23_16.out]; exact S.out
    clear S
    refine regionL (E := []) (base := b23_16) S1 ?_
    clear S1
    refine quietL ?_
    simp only [Act.put, pa]; try dsimp only [List.set]
    refine quietLC Cb23_16_0 ?_
    simp only [Act.put, pa]; try dsimp only [List.set]
    refine quietL ?_
    simp only [Act.put, pa]; try dsimp only [List.set]
    refine doneL (h := fun w18 S => ?_)
    replace S : Sep w (boxW qv81 1 n2 ⟨#[]⟩ :: boxE qe82 :: boxW qv71 1 n1 ⟨#[]⟩ :: boxE qe72 :: boxV qb91 b :: boxV qa81 a :: heapR h H :: refR y H :: boxR q3 (.cells #[.int .i64 x0.kind, .int .i64 x0.n, .string x0.s, .int .i64 x1.kind, .int .i64 x1.n, .string x1.s] 34) :: []) w18 := by rw [Hb23_16.out] at S; exact S
    clear Hb23_16 Kb23_16 Cb23_16_0
    refine named (boxW qv81 1 n2 ⟨#[]⟩ :: boxE qe82 :: boxW qv71 1 n1 ⟨#[]⟩ :: boxE qe72 :: boxV qb91 b :: boxV qa81 a :: heapR h H :: refR y H :: boxR q3 (.cells #[.int .i64 x0.kind, .int .i64 x0.n, .string x0.s, .int .i64 x1.kind, .int .i64 x1.n, .string x1.s] 34) :: [] : List Res) fun b25_18 hb25_18 => ?_
    have Hb25_18 := Lib.hid hb25_18
    have Kb25_18 : Hid (∀ W (Q : List Res), Sep w (Q ++ b25_18) W → True) := Lib.hid fun W Q T => by
      rw [hb25_18] at T
      trivial
    have Cb25_18_0 := baseC3 (w := w) (b := qa81) hb25_18 5 rfl
    replace S := Lib.hid S
    clear hb25_18
    go_upto_region 25 with fail
    have S1 : Sep w ([] ++ b25_18) (w18) := by rw [Hb25_18.out]; exact S.out
    clear S
    refine regionL (E := []) (base := b25_18) S1 ?_
    clear S1
    refine quietL ?_
    simp only [Act.put, pa]; try dsimp only [List.set]
    refine quietLC Cb25_18_0 ?_
    simp only [Act.put, pa]; try dsimp only [List.set]
    refine quietL ?_
    simp only [Act.put, pa]; try dsimp only [List.set]
    refine doneL (h := fun w20 S => ?_)
    replace S : Sep w (boxW qv81 1 n2 ⟨#[]⟩ :: boxE qe82 :: boxW qv71 1 n1 ⟨#[]⟩ :: boxE qe72 :: boxV qb91 b :: boxV qa81 a :: heapR h H :: refR y H :: boxR q3 (.cells #[.int .i64 x0.kind, .int .i64 x0.n, .string x0.s, .int .i64 x1.kind, .int .i64 x1.n, .string x1.s] 34) :: []) w20 := by rw [Hb25_18.out] at S; exact S
    clear Hb25_18 Kb25_18 Cb25_18_0
    have HLA : Hid (a.s.size ≤ 8) := Lib.hid (by rw [Ha_.out]; exact plain_size x0)
    have HLB : Hid (b.s.size ≤ 8) := Lib.hid (by rw [Hb_.out]; exact plain_size x1)
    have HIN : Hid (decide (0 ≤ Lib.index b.s.data.toList a.s.data.toList) = bb) := Lib.hid (by
      have e := HQ.out
      unfold HeapM.inC at e
      rw [if_pos ⟨HKD.out.2, HKD.out.1⟩] at e
      injection e)
    replace S := Lib.hid S
    go_wp2
    go_loopw [19, 20] (fun s19 s20 wr => ∃ i : Nat, i ≤ b.s.size + 1 ∧ s19 = .bool (thereN b.s a.s i) ∧ s20 = .int .i64 i ∧ Sep w (boxW qv81 1 n2 ⟨#[]⟩ :: boxE qe82 :: boxW qv71 1 n1 ⟨#[]⟩ :: boxE qe72 :: boxV qb91 b :: boxV qa81 a :: heapR h H :: refR y H :: boxR q3 (.cells #[.int .i64 x0.kind, .int .i64 x0.n, .string x0.s, .int .i64 x1.kind, .int .i64 x1.n, .string x1.s] 34) :: []) wr) (fun _ s20 _ => 20 - (intOf s20).toNat)
    case atStart => exact ⟨0, Nat.zero_le _, rfl, rfl, S.out⟩
    case round =>
      obtain ⟨i, hi, rfl, rfl, S⟩ := hrel
      have hwi : IntKind.i64.wrap ((i : Int) + (a.s.size : Int)) = (i : Int) + (a.s.size : Int) := IntWalk.i64_in _ (by have := HLA.out; have := HLB.out; omega)
      have HI := Lib.hid hi
      by_cases hlt : i + a.s.size ≤ b.s.size
      ·
        have hlti : (i : Int) + (a.s.size : Int) ≤ (b.s.size : Int) := by omega
        have HLT := Lib.hid hlt
        clear hi
        replace S : Sep w (boxW qv81 1 n2 ⟨#[]⟩ :: boxE qe82 :: boxW qv71 1 n1 ⟨#[]⟩ :: boxE qe72 :: boxV qb91 b :: boxV qa81 a :: heapR h H :: refR y H :: boxR q3 (.cells #[.int .i64 x0.kind, .int .i64 x0.n, .string x0.s, .int .i64 x1.kind, .int .i64 x1.n, .string x1.s] 34) :: []) wr := S
        refine named (boxW qv81 1 n2 ⟨#[]⟩ :: boxE qe82 :: boxW qv71 1 n1 ⟨#[]⟩ :: boxE qe72 :: boxV qb91 b :: boxV qa81 a :: heapR h H :: refR y H :: boxR q3 (.cells #[.int .i64 x0.kind, .int .i64 x0.n, .string x0.s, .int .i64 x1.kind, .int .i64 x1.n, .string x1.s] 34) :: [] : List Res) fun b29_100 hb29_100 => ?_
        have Hb29_100 := Lib.hid hb29_100
        have Kb29_100 : Hid (∀ W (Q : List Res), Sep w (Q ++ b29_100) W → True) := Lib.hid fun W Q T => by
          rw [hb29_100] at T
          trivial
        have Cb29_100_0 := baseC3 (w := w) (b := qa81) hb29_100 5 rfl
        have Cb29_100_1 := baseC3 (w := w) (b := qb91) hb29_100 4 rfl
        replace S := Lib.hid S
        clear hb29_100
        go_upto_region 29 with fail
        have S1 : Sep w ([] ++ b29_100) (wr) := by rw [Hb29_100.out]; exact S.out
        clear S
        refine regionL (E := []) (base := b29_100) S1 ?_
        clear S1
        iterate 2 (refine quietL ?_; simp only [Act.put, pa]; try dsimp only [List.set])
        refine quietLC Cb29_100_0 ?_
        simp only [Act.put, pa]; try dsimp only [List.set]
        iterate 3 (refine quietL ?_; simp only [Act.put, pa]; try dsimp only [List.set])
        refine quietLC Cb29_100_1 ?_
        simp only [Act.put, pa]; try dsimp only [List.set]
        iterate 2 (refine quietL ?_; simp only [Act.put, pa]; try dsimp only [List.set])
        refine doneL (h := fun w102 S => ?_)
        replace S : Sep w (boxW qv81 1 n2 ⟨#[]⟩ :: boxE qe82 :: boxW qv71 1 n1 ⟨#[]⟩ :: boxE qe72 :: boxV qb91 b :: boxV qa81 a :: heapR h H :: refR y H :: boxR q3 (.cells #[.int .i64 x0.kind, .int .i64 x0.n, .string x0.s, .int .i64 x1.kind, .int .i64 x1.n, .string x1.s] 34) :: []) w102 := by rw [Hb29_100.out] at S; exact S
        clear Hb29_100 Kb29_100 Cb29_100_0 Cb29_100_1
        have hl1 : (0 : Int) ≤ (i : Int) := by omega
        have hl2 : (i : Int) ≤ (i : Int) + (a.s.size : Int) := by omega
        obtain ⟨t, ht⟩ : ∃ t, t = thereN b.s a.s i := ⟨_, rfl⟩
        have HT := Lib.hid ht
        rw [← ht]
        clear ht
        cases t
        ·
          obtain ⟨d, hd⟩ : ∃ d, d = ((b.s.extract i (i + a.s.size)).toList == a.s.toList) := ⟨_, rfl⟩
          have HD := Lib.hid hd
          clear hd
          refine named (boxW qv81 1 n2 ⟨#[]⟩ :: boxE qe82 :: boxW qv71 1 n1 ⟨#[]⟩ :: boxE qe72 :: boxV qb91 b :: boxV qa81 a :: heapR h H :: refR y H :: boxR q3 (.cells #[.int .i64 x0.kind, .int .i64 x0.n, .string x0.s, .int .i64 x1.kind, .int .i64 x1.n, .string x1.s] 34) :: [] : List Res) fun b31_102 hb31_102 => ?_
          have Hb31_102 := Lib.hid hb31_102
          have Kb31_102 : Hid (∀ W (Q : List Res), Sep w (Q ++ b31_102) W → True) := Lib.hid fun W Q T => by
            rw [hb31_102] at T
            trivial
          have Cb31_102_0 := baseC3 (w := w) (b := qa81) hb31_102 5 rfl
          have Cb31_102_1 := baseC3 (w := w) (b := qb91) hb31_102 4 rfl
          replace S := Lib.hid S
          clear hb31_102
          go_upto_region 31 with fail
          have S1 : Sep w ([] ++ b31_102) (w102) := by rw [Hb31_102.out]; exact S.out
          clear S
          refine regionP 16 0 (E := []) (base := b31_102) S1 ?_
          clear S1
          iterate 3 (refine quietP ?_; simp only [Act.put, pa]; try dsimp only [List.set])
          refine quietPC Cb31_102_1 ?_
          simp only [Act.put, pa]; try dsimp only [List.set]
          iterate 3 (refine quietP ?_; simp only [Act.put, pa]; try dsimp only [List.set])
          refine quietPC Cb31_102_0 ?_
          simp only [Act.put, pa]; try dsimp only [List.set]
          iterate 2 (refine quietP ?_; simp only [Act.put, pa]; try dsimp only [List.set])
          refine quietP (v := .string (b.s.extract i (i + a.s.size))) (hy := fun E Wx hSw => by (go_simp; exact ⟨rfl, hSw⟩)) (h := ?_)
          simp only [Act.put, pa]; try dsimp only [List.set]
          refine quietP ?_
          simp only [Act.put, pa]; try dsimp only [List.set]
          refine quietPC Cb31_102_0 ?_
          simp only [Act.put, pa]; try dsimp only [List.set]
          refine quietP (v := .bool d) (hy := fun E Wx hSw => by (rw [HD.out]; go_simp; exact ⟨rfl, hSw⟩)) (h := ?_)
          simp only [Act.put, pa]; try dsimp only [List.set]
          iterate 2 (refine quietP ?_; simp only [Act.put, pa]; try dsimp only [List.set])
          refine endP ?_
          refine doneS (h := fun w104 S => ?_)
          replace S : Sep w (boxW qv81 1 n2 ⟨#[]⟩ :: boxE qe82 :: boxW qv71 1 n1 ⟨#[]⟩ :: boxE qe72 :: boxV qb91 b :: boxV qa81 a :: heapR h H :: refR y H :: boxR q3 (.cells #[.int .i64 x0.kind, .int .i64 x0.n, .string x0.s, .int .i64 x1.kind, .int .i64 x1.n, .string x1.s] 34) :: []) w104 := by rw [Hb31_102.out] at S; exact S
          clear Hb31_102 Kb31_102 Cb31_102_0 Cb31_102_1
          have hi1 : IntKind.i64.wrap ((i : Int) + 1) = (i : Int) + 1 := IntWalk.i64_in _ (by have := HLB.out; have := HI.out; omega)
          have HE : Hid (thereN b.s a.s (i + 1) = d) := Lib.hid (by rw [thereN, ← HT.out, HD.out, eqS]; rfl)
          replace S := Lib.hid S
          go_wp2
          exact ⟨⟨i + 1, by have := HLT.out; omega, congrArg Value.bool HE.out.symm, by go_num, S.out⟩, by have := HLT.out; have := HLB.out; simp [intOf]; omega⟩
        ·
          refine named (boxW qv81 1 n2 ⟨#[]⟩ :: boxE qe82 :: boxW qv71 1 n1 ⟨#[]⟩ :: boxE qe72 :: boxV qb91 b :: boxV qa81 a :: heapR h H :: refR y H :: boxR q3 (.cells #[.int .i64 x0.kind, .int .i64 x0.n, .string x0.s, .int .i64 x1.kind, .int .i64 x1.n, .string x1.s] 34) :: [] : List Res) fun b31_102 hb31_102 => ?_
          have Hb31_102 := Lib.hid hb31_102
          have Kb31_102 : Hid (∀ W (Q : List Res), Sep w (Q ++ b31_102) W → True) := Lib.hid fun W Q T => by
            rw [hb31_102] at T
            trivial
          replace S := Lib.hid S
          clear hb31_102
          go_upto_region 31 with fail
          have S1 : Sep w ([] ++ b31_102) (w102) := by rw [Hb31_102.out]; exact S.out
          clear S
          refine regionP 16 0 (E := []) (base := b31_102) S1 ?_
          clear S1
          iterate 2 (refine quietP ?_; simp only [Act.put, pa]; try dsimp only [List.set])
          iterate 12 (refine skipP ?_; simp only [Act.put, pa]; try dsimp only [List.set])
          iterate 2 (refine quietP ?_; simp only [Act.put, pa]; try dsimp only [List.set])
          refine endP ?_
          refine doneS (h := fun w104 S => ?_)
          replace S : Sep w (boxW qv81 1 n2 ⟨#[]⟩ :: boxE qe82 :: boxW qv71 1 n1 ⟨#[]⟩ :: boxE qe72 :: boxV qb91 b :: boxV qa81 a :: heapR h H :: refR y H :: boxR q3 (.cells #[.int .i64 x0.kind, .int .i64 x0.n, .string x0.s, .int .i64 x1.kind, .int .i64 x1.n, .string x1.s] 34) :: []) w104 := by rw [Hb31_102.out] at S; exact S
          clear Hb31_102 Kb31_102
          have hi1 : IntKind.i64.wrap ((i : Int) + 1) = (i : Int) + 1 := IntWalk.i64_in _ (by have := HLB.out; have := HI.out; omega)
          have HE : Hid (thereN b.s a.s (i + 1) = true) := Lib.hid (by rw [thereN, ← HT.out]; rfl)
          replace S := Lib.hid S
          go_wp2
          exact ⟨⟨i + 1, by have := HLT.out; omega, congrArg Value.bool HE.out.symm, by go_num, S.out⟩, by have := HLT.out; have := HLB.out; simp [intOf]; omega⟩
      ·
        have hlti : ¬ (i : Int) + (a.s.size : Int) ≤ (b.s.size : Int) := by omega
        have hte : thereN b.s a.s i = bb := by rw [there_end (by omega) hi]; exact HIN.out
        rw [hte]
        clear hte hi hlt
        replace S : Sep w (boxW qv81 1 n2 ⟨#[]⟩ :: boxE qe82 :: boxW qv71 1 n1 ⟨#[]⟩ :: boxE qe72 :: boxV qb91 b :: boxV qa81 a :: heapR h H :: refR y H :: boxR q3 (.cells #[.int .i64 x0.kind, .int .i64 x0.n, .string x0.s, .int .i64 x1.kind, .int .i64 x1.n, .string x1.s] 34) :: []) wr := S
        refine named (boxW qv81 1 n2 ⟨#[]⟩ :: boxE qe82 :: boxW qv71 1 n1 ⟨#[]⟩ :: boxE qe72 :: boxV qb91 b :: boxV qa81 a :: heapR h H :: refR y H :: boxR q3 (.cells #[.int .i64 x0.kind, .int .i64 x0.n, .string x0.s, .int .i64 x1.kind, .int .i64 x1.n, .string x1.s] 34) :: [] : List Res) fun b29_300 hb29_300 => ?_
        have Hb29_300 := Lib.hid hb29_300
        have Kb29_300 : Hid (∀ W (Q : List Res), Sep w (Q ++ b29_300) W → True) := Lib.hid fun W Q T => by
          rw [hb29_300] at T
          trivial
        have Cb29_300_0 := baseC3 (w := w) (b := qa81) hb29_300 5 rfl
        have Cb29_300_1 := baseC3 (w := w) (b := qb91) hb29_300 4 rfl
        replace S := Lib.hid S
        clear hb29_300
        go_upto_region 29 with fail
        have S1 : Sep w ([] ++ b29_300) (wr) := by rw [Hb29_300.out]; exact S.out
        clear S
        refine regionL (E := []) (base := b29_300) S1 ?_
        clear S1
        iterate 2 (refine quietL ?_; simp only [Act.put, pa]; try dsimp only [List.set])
        refine quietLC Cb29_300_0 ?_
        simp only [Act.put, pa]; try dsimp only [List.set]
        iterate 3 (refine quietL ?_; simp only [Act.put, pa]; try dsimp only [List.set])
        refine quietLC Cb29_300_1 ?_
        simp only [Act.put, pa]; try dsimp only [List.set]
        iterate 2 (refine quietL ?_; simp only [Act.put, pa]; try dsimp only [List.set])
        refine doneL (h := fun w302 S => ?_)
        replace S : Sep w (boxW qv81 1 n2 ⟨#[]⟩ :: boxE qe82 :: boxW qv71 1 n1 ⟨#[]⟩ :: boxE qe72 :: boxV qb91 b :: boxV qa81 a :: heapR h H :: refR y H :: boxR q3 (.cells #[.int .i64 x0.kind, .int .i64 x0.n, .string x0.s, .int .i64 x1.kind, .int .i64 x1.n, .string x1.s] 34) :: []) w302 := by rw [Hb29_300.out] at S; exact S
        clear Hb29_300 Kb29_300 Cb29_300_0 Cb29_300_1
        have hyb : (if bb = true then (1 : Int) else 0) = n1 := by cases hbb : bb; exact (HF1.out hbb).symm; exact (HT1.out hbb).symm
        have HYB := Lib.hid hyb
        clear hyb
        refine named (boxW qv81 1 n2 ⟨#[]⟩ :: boxE qe82 :: boxW qv71 1 n1 ⟨#[]⟩ :: boxE qe72 :: boxV qb91 b :: boxV qa81 a :: heapR h H :: refR y H :: boxR q3 (.cells #[.int .i64 x0.kind, .int .i64 x0.n, .string x0.s, .int .i64 x1.kind, .int .i64 x1.n, .string x1.s] 34) :: [] : List Res) fun b32_302 hb32_302 => ?_
        have Hb32_302 := Lib.hid hb32_302
        have Kb32_302 : Hid (∀ W (Q : List Res), Sep w (Q ++ b32_302) W → True) := Lib.hid fun W Q T => by
          rw [hb32_302] at T
          trivial
        have Cb32_302_0 := baseC5 (w := w) (b := qe72) hb32_302 3 rfl
        have Cb32_302_1 := baseC3 (w := w) (b := qv71) hb32_302 2 rfl
        have K32_1 : KC w b32_302 19 #[excZ] (.bool true) := Lib.hid fun W Q T => by
          exact (none_z W).mono fun e W' ⟨e1, e2⟩ => ⟨e1, T.later e2⟩
        have K32_5 : KC w b32_302 20 #[.bool bb] (.agg #[.int .i64 1, .int .i64 n1, .string ⟨#[]⟩]) := Lib.hid fun W Q T => by
          rw [Hb32_302.out] at T ⊢
          exact (by have hh := lyes_ok W bb; rw [HYB.out] at hh; exact hh.mono fun e W' ⟨e1, e2⟩ => ⟨e1, T.later e2⟩)
        replace S := Lib.hid S
        clear hb32_302
        go_upto_region 32 with fail
        have S1 : Sep w ([] ++ b32_302) (w302) := by rw [Hb32_302.out]; exact S.out
        clear S
        refine regionP 9 0 (E := []) (base := b32_302) S1 ?_
        clear S1
        refine quietPC Cb32_302_0 ?_
        simp only [Act.put, pa]; try dsimp only [List.set]
        refine quietPK K32_1 ?_
        simp only [Act.put, pa]; try dsimp only [List.set]
        refine quietP ?_
        simp only [Act.put, pa]; try dsimp only [List.set]
        refine quietPC Cb32_302_1 ?_
        simp only [Act.put, pa]; try dsimp only [List.set]
        refine quietP ?_
        simp only [Act.put, pa]; try dsimp only [List.set]
        refine quietPK K32_5 ?_
        simp only [Act.put, pa]; try dsimp only [List.set]
        iterate 3 (refine quietP ?_; simp only [Act.put, pa]; try dsimp only [List.set])
        refine endP ?_
        refine doneS (h := fun w304 S => ?_)
        replace S : Sep w (boxW qv81 1 n2 ⟨#[]⟩ :: boxE qe82 :: boxW qv71 1 n1 ⟨#[]⟩ :: boxE qe72 :: boxV qb91 b :: boxV qa81 a :: heapR h H :: refR y H :: boxR q3 (.cells #[.int .i64 x0.kind, .int .i64 x0.n, .string x0.s, .int .i64 x1.kind, .int .i64 x1.n, .string x1.s] 34) :: []) w304 := by rw [Hb32_302.out] at S; exact S
        clear Hb32_302 Kb32_302 K32_1 K32_5 Cb32_302_0 Cb32_302_1
        replace S := Lib.hid S.below
        go_wp2
        go_ret
        exact ⟨rfl, by rw [← HQ3.out]; exact S.out⟩
  · by_cases hrow : H.rowB b = true
    · have HKD := Lib.hid hrow
      clear hrow hss
      have hkk : kb = 1 ∨ kb = 2 := by rw [← HKB.out]; exact HeapM.rowB_kind HKD.out
      go_upto_region 12 with fail
      go_cut [83] (fun s83 wx => s83 = .bool true ∧ Sep w (boxW qv81 1 n2 ⟨#[]⟩ :: boxE qe82 :: boxW qv71 1 n1 ⟨#[]⟩ :: boxE qe72 :: boxV qb91 b :: boxV qa81 a :: heapR h H :: refR y H :: boxR q3 (.cells #[.int .i64 x0.kind, .int .i64 x0.n, .string x0.s, .int .i64 x1.kind, .int .i64 x1.n, .string x1.s] 34) :: []) wx)
      case first =>
        rcases hkk with hkk | hkk
        ·
          subst hkk
          refine named (boxW qv81 1 n2 ⟨#[]⟩ :: boxE qe82 :: boxW qv71 1 n1 ⟨#[]⟩ :: boxE qe72 :: boxV qb91 b :: boxV qa81 a :: heapR h H :: refR y H :: boxR q3 (.cells #[.int .i64 x0.kind, .int .i64 x0.n, .string x0.s, .int .i64 x1.kind, .int .i64 x1.n, .string x1.s] 34) :: [] : List Res) fun b12_50 hb12_50 => ?_
          have Hb12_50 := Lib.hid hb12_50
          have Kb12_50 : Hid (∀ W (Q : List Res), Sep w (Q ++ b12_50) W → True) := Lib.hid fun W Q T => by
            rw [hb12_50] at T
            trivial
          replace S := Lib.hid S
          clear hb12_50
          have S1 : Sep w ([] ++ b12_50) (w14) := by rw [Hb12_50.out]; exact S.out
          clear S
          refine regionL (E := []) (base := b12_50) S1 ?_
          clear S1
          iterate 3 (refine quietL ?_; simp only [Act.put, pa]; try dsimp only [List.set])
          iterate 2 (refine skipL ?_; simp only [Act.put, pa]; try dsimp only [List.set])
          refine quietL ?_
          simp only [Act.put, pa]; try dsimp only [List.set]
          refine doneL (h := fun w52 S => ?_)
          replace S : Sep w (boxW qv81 1 n2 ⟨#[]⟩ :: boxE qe82 :: boxW qv71 1 n1 ⟨#[]⟩ :: boxE qe72 :: boxV qb91 b :: boxV qa81 a :: heapR h H :: refR y H :: boxR q3 (.cells #[.int .i64 x0.kind, .int .i64 x0.n, .string x0.s, .int .i64 x1.kind, .int .i64 x1.n, .string x1.s] 34) :: []) w52 := by rw [Hb12_50.out] at S; exact S
          clear Hb12_50 Kb12_50
          replace S := Lib.hid S
          go_wp2_with fail
          go_meet
          exact ⟨rfl, S.out⟩
        ·
          subst hkk
          refine named (boxW qv81 1 n2 ⟨#[]⟩ :: boxE qe82 :: boxW qv71 1 n1 ⟨#[]⟩ :: boxE qe72 :: boxV qb91 b :: boxV qa81 a :: heapR h H :: refR y H :: boxR q3 (.cells #[.int .i64 x0.kind, .int .i64 x0.n, .string x0.s, .int .i64 x1.kind, .int .i64 x1.n, .string x1.s] 34) :: [] : List Res) fun b12_60 hb12_60 => ?_
          have Hb12_60 := Lib.hid hb12_60
          have Kb12_60 : Hid (∀ W (Q : List Res), Sep w (Q ++ b12_60) W → True) := Lib.hid fun W Q T => by
            rw [hb12_60] at T
            trivial
          replace S := Lib.hid S
          clear hb12_60
          have S1 : Sep w ([] ++ b12_60) (w14) := by rw [Hb12_60.out]; exact S.out
          clear S
          refine regionL (E := []) (base := b12_60) S1 ?_
          clear S1
          iterate 6 (refine quietL ?_; simp only [Act.put, pa]; try dsimp only [List.set])
          refine doneL (h := fun w62 S => ?_)
          replace S : Sep w (boxW qv81 1 n2 ⟨#[]⟩ :: boxE qe82 :: boxW qv71 1 n1 ⟨#[]⟩ :: boxE qe72 :: boxV qb91 b :: boxV qa81 a :: heapR h H :: refR y H :: boxR q3 (.cells #[.int .i64 x0.kind, .int .i64 x0.n, .string x0.s, .int .i64 x1.kind, .int .i64 x1.n, .string x1.s] 34) :: []) w62 := by rw [Hb12_60.out] at S; exact S
          clear Hb12_60 Kb12_60
          replace S := Lib.hid S
          go_wp2_with fail
          go_meet
          exact ⟨rfl, S.out⟩
      case rest =>
        obtain ⟨rfl, S⟩ := hcut
        clear hkk
        obtain ⟨I1, hI1⟩ : ∃ l, l = H.items b := ⟨_, rfl⟩
        have HI1 := Lib.hid hI1
        have HIL : Hid (I1.length ≤ 200) := Lib.hid (by rw [hI1]; exact HF.out.G.items b)
        have HIN : Hid (sameC (H.inL a I1) = .ok bb) := Lib.hid (by
          have hb4 := H.kind_ref b (by have := HeapM.rowB_kind HKD.out; omega)
          have e := HQ.out
          unfold HeapM.inC at e
          rw [if_neg (by omega), if_pos HKD.out, ← hI1] at e
          exact e)
        clear hI1
        refine named (boxW qv81 1 n2 ⟨#[]⟩ :: boxE qe82 :: boxW qv71 1 n1 ⟨#[]⟩ :: boxE qe72 :: boxV qb91 b :: boxV qa81 a :: heapR h H :: refR y H :: boxR q3 (.cells #[.int .i64 x0.kind, .int .i64 x0.n, .string x0.s, .int .i64 x1.kind, .int .i64 x1.n, .string x1.s] 34) :: [] : List Res) fun b13_70 hb13_70 => ?_
        have Hb13_70 := Lib.hid hb13_70
        have Kb13_70 : Hid (∀ W (Q : List Res), Sep w (Q ++ b13_70) W → True) := Lib.hid fun W Q T => by
          rw [hb13_70] at T
          trivial
        have Cb13_70_0 := baseC3 (w := w) (b := qb91) hb13_70 4 rfl
        have KI13_2 : Hid (∀ W (Q : List Res), Sep w (Q ++ b13_70) W → Calls Tryz.prog 31 #[.pointer (some ⟨h, 0, none⟩), .agg #[.int .i64 b.kind, .int .i64 b.n, .string b.s]] W fun e W' => ∃ a c, e = .returned (.slice a I1.length c) ∧ Sep w (valsR (.slice a I1.length c) I1 :: (Q ++ b13_70)) W') := Lib.hid fun W Q T => by
          rw [Hb13_70.out] at T ⊢
          exact items_at T (Q.length + 6) (atR rfl) HF.out.G (by decide) b I1 HI1.out.symm
        replace S := Lib.hid S
        clear hb13_70
        go_upto_region 13 with fail
        have S1 : Sep w ([] ++ b13_70) (wc) := by rw [Hb13_70.out]; exact S.out
        clear S
        refine regionL (E := [emptyR]) (base := b13_70) (Sep.putE S1) ?_
        clear S1
        refine quietL ?_
        simp only [Act.put, pa]; try dsimp only [List.set]
        refine quietLC Cb13_70_0 ?_
        simp only [Act.put, pa]; try dsimp only [List.set]
        refine stepL (fun v E1 => ∃ (va_72_1 : Option Addr) (vc_72_1 : Nat), v = .slice va_72_1 I1.length vc_72_1 ∧ E1 = [valsR (.slice va_72_1 I1.length vc_72_1) I1]) (h1 := fun Wx hSw => by (go_simp; refine symCallN ?_; exact (KI13_2.out _ _ hSw).mono fun e W' ⟨a, c, e1, e2⟩ => ⟨_, _, e1, ⟨a, c, rfl, rfl⟩, e2.into 0 rfl⟩)) (h2 := fun v E1 hvE => ?_)
        obtain ⟨va_72_1, vc_72_1, rfl, rfl⟩ := hvE
        simp only [Act.put, pa]; try dsimp only [List.set]
        refine quietL ?_
        simp only [Act.put, pa]; try dsimp only [List.set]
        refine doneL (h := fun w72 S => ?_)
        replace S : Sep w (valsR (.slice va_72_1 I1.length vc_72_1) I1 :: boxW qv81 1 n2 ⟨#[]⟩ :: boxE qe82 :: boxW qv71 1 n1 ⟨#[]⟩ :: boxE qe72 :: boxV qb91 b :: boxV qa81 a :: heapR h H :: refR y H :: boxR q3 (.cells #[.int .i64 x0.kind, .int .i64 x0.n, .string x0.s, .int .i64 x1.kind, .int .i64 x1.n, .string x1.s] 34) :: []) w72 := by rw [Hb13_70.out] at S; exact S
        clear Hb13_70 Kb13_70 KI13_2 Cb13_70_0
        replace S := Lib.hid S
        go_wp2
        go_loopw [16] (fun s16 wr => ∃ k : Nat, k ≤ I1.length ∧ s16 = .int .i64 k ∧ Hid (∀ z ∈ I1.take k, H.sameF 30 z a = some false) ∧ Sep w (valsR (.slice va_72_1 I1.length vc_72_1) I1 :: boxW qv81 1 n2 ⟨#[]⟩ :: boxE qe82 :: boxW qv71 1 n1 ⟨#[]⟩ :: boxE qe72 :: boxV qb91 b :: boxV qa81 a :: heapR h H :: refR y H :: boxR q3 (.cells #[.int .i64 x0.kind, .int .i64 x0.n, .string x0.s, .int .i64 x1.kind, .int .i64 x1.n, .string x1.s] 34) :: []) wr) (fun s16 _ => I1.length - (intOf s16).toNat)
        case atStart => exact ⟨0, Nat.zero_le _, rfl, Lib.hid (by simp), S.out⟩
        case round =>
          obtain ⟨k, hk, rfl, HA, S⟩ := hrel
          by_cases hlt : k < I1.length
          ·
            have hlti : (k : Int) < I1.length := by omega
            obtain ⟨z, hz⟩ : ∃ z, I1[k]? = some z := ⟨I1[k], by simp [hlt]⟩
            obtain ⟨g, og, hag⟩ := (S.seesV 0 rfl).some_at (show 0 < I1.length by omega)
            subst hag
            have HZ := Lib.hid hz
            have HLT := Lib.hid hlt
            clear hz hk hlt
            obtain ⟨r, hr⟩ : ∃ r, r = H.sameF 30 z a := ⟨_, rfl⟩
            have HS2 := Lib.hid hr
            clear hr
            match r, HS2 with
            | some false, HS2 =>
              replace S : Sep w (valsR (.slice (some ⟨g, og, none⟩) I1.length vc_72_1) I1 :: boxW qv81 1 n2 ⟨#[]⟩ :: boxE qe82 :: boxW qv71 1 n1 ⟨#[]⟩ :: boxE qe72 :: boxV qb91 b :: boxV qa81 a :: heapR h H :: refR y H :: boxR q3 (.cells #[.int .i64 x0.kind, .int .i64 x0.n, .string x0.s, .int .i64 x1.kind, .int .i64 x1.n, .string x1.s] 34) :: []) wr := S
              refine named (valsR (.slice (some ⟨g, og, none⟩) I1.length vc_72_1) I1 :: boxW qv81 1 n2 ⟨#[]⟩ :: boxE qe82 :: boxW qv71 1 n1 ⟨#[]⟩ :: boxE qe72 :: boxV qb91 b :: boxV qa81 a :: heapR h H :: refR y H :: boxR q3 (.cells #[.int .i64 x0.kind, .int .i64 x0.n, .string x0.s, .int .i64 x1.kind, .int .i64 x1.n, .string x1.s] 34) :: [] : List Res) fun b17_100 hb17_100 => ?_
              have Hb17_100 := Lib.hid hb17_100
              have Kb17_100 : Hid (∀ W (Q : List Res), Sep w (Q ++ b17_100) W → True) := Lib.hid fun W Q T => by
                rw [hb17_100] at T
                trivial
              have Cb17_100_0 := baseC3 (w := w) (b := qa81) hb17_100 6 rfl
              have K17_6 : KC w b17_100 29 #[hpV h, agV z, agV a] (.tuple #[.bool false, excZ]) := Lib.hid fun W Q T => by
                rw [Hb17_100.out] at T ⊢
                exact (by have hh := sameOp_ok HF.out.G (by decide) (Q.length + 7) T (atR rfl) z a; rw [← HS2.out] at hh; exact hh)
              have R17_4 : Hid (∀ W (Q : List Res), Sep w (Q ++ b17_100) W → W.cell? ⟨g, og + k * 3, none⟩ = some (.int .i64 z.kind) ∧ W.cell? ⟨g, og + k * 3 + 1, none⟩ = some (.int .i64 z.n) ∧ W.cell? ⟨g, og + k * 3 + 2, none⟩ = some (.string z.s)) := Lib.hid fun W Q T => by rw [Hb17_100.out] at T; exact sepThree T (Q.length + 0) (atR rfl) HZ.out
              replace S := Lib.hid S
              clear hb17_100
              go_upto_region 17 with fail
              have S1 : Sep w ([] ++ b17_100) (wr) := by rw [Hb17_100.out]; exact S.out
              clear S
              refine regionP 10 3 (E := [emptyR]) (base := b17_100) (Sep.putE S1) ?_
              clear S1
              iterate 4 (refine quietP ?_; simp only [Act.put, pa]; try dsimp only [List.set])
              refine quietPC R17_4 ?_
              simp only [Act.put, pa]; try dsimp only [List.set]
              refine quietPC Cb17_100_0 ?_
              simp only [Act.put, pa]; try dsimp only [List.set]
              refine quietPK K17_6 ?_
              simp only [Act.put, pa]; try dsimp only [List.set]
              iterate 3 (refine quietP ?_; simp only [Act.put, pa]; try dsimp only [List.set])
              refine endP ?_
              refine readyS [10] ?_
              refine allocS 0 rfl (fun q => .pointer (some ⟨q, 0, none⟩)) (.cells #[.string ⟨#[]⟩, .int .i64 0, .int .i64 0, .string ⟨#[]⟩, .bool false] 38) (h1 := fun Wx => by go_simp) (h2 := fun qe181 => ?_) (hs := nilS)
              simp only [Act.put, pa]; try dsimp only [List.set]
              try simp only [List.set_cons_zero, List.set_cons_succ]
              refine quietS 11 ?_
              simp only [Act.put, pa]; try dsimp only [List.set]
              refine readyS [12] ?_
              refine detS undef [boxE qe181] (h1 := fun Wx hSw => by (have hz := hSw.box (b := qe181) (o := objE) 0 rfl; refine useZ5 hz fun z0 z1 z2 z3 z4 y0 y1 y2 y3 y4 => ?_; go_simp; exact ⟨rfl, hSw.set5 0 rfl (.string ⟨#[]⟩) (.int .i64 0) (.int .i64 0) (.string ⟨#[]⟩) (.bool false)⟩)) (h2 := ?_) (hs := nilS)
              simp only [Act.put, pa]; try dsimp only [List.set]
              refine doneS (h := fun w102 S => ?_)
              replace S : Sep w (boxE qe181 :: valsR (.slice (some ⟨g, og, none⟩) I1.length vc_72_1) I1 :: boxW qv81 1 n2 ⟨#[]⟩ :: boxE qe82 :: boxW qv71 1 n1 ⟨#[]⟩ :: boxE qe72 :: boxV qb91 b :: boxV qa81 a :: heapR h H :: refR y H :: boxR q3 (.cells #[.int .i64 x0.kind, .int .i64 x0.n, .string x0.s, .int .i64 x1.kind, .int .i64 x1.n, .string x1.s] 34) :: []) w102 := by rw [Hb17_100.out] at S; exact S
              clear Hb17_100 Kb17_100 K17_6 R17_4 Cb17_100_0
              refine named (boxE qe181 :: valsR (.slice (some ⟨g, og, none⟩) I1.length vc_72_1) I1 :: boxW qv81 1 n2 ⟨#[]⟩ :: boxE qe82 :: boxW qv71 1 n1 ⟨#[]⟩ :: boxE qe72 :: boxV qb91 b :: boxV qa81 a :: heapR h H :: refR y H :: boxR q3 (.cells #[.int .i64 x0.kind, .int .i64 x0.n, .string x0.s, .int .i64 x1.kind, .int .i64 x1.n, .string x1.s] 34) :: [] : List Res) fun b18_102 hb18_102 => ?_
              have Hb18_102 := Lib.hid hb18_102
              have Kb18_102 : Hid (∀ W (Q : List Res), Sep w (Q ++ b18_102) W → True) := Lib.hid fun W Q T => by
                rw [hb18_102] at T
                trivial
              have Cb18_102_0 := baseC5 (w := w) (b := qe181) hb18_102 0 rfl
              have K18_1 : KC w b18_102 19 #[excZ] (.bool true) := Lib.hid fun W Q T => by
                exact (none_z W).mono fun e W' ⟨e1, e2⟩ => ⟨e1, T.later e2⟩
              replace S := Lib.hid S
              clear hb18_102
              go_upto_region 18 with fail
              have S1 : Sep w ([] ++ b18_102) (w102) := by rw [Hb18_102.out]; exact S.out
              clear S
              refine regionL (E := []) (base := b18_102) S1 ?_
              clear S1
              refine quietLC Cb18_102_0 ?_
              simp only [Act.put, pa]; try dsimp only [List.set]
              refine quietLK K18_1 ?_
              simp only [Act.put, pa]; try dsimp only [List.set]
              refine quietL ?_
              simp only [Act.put, pa]; try dsimp only [List.set]
              refine doneL (h := fun w104 S => ?_)
              replace S : Sep w (boxE qe181 :: valsR (.slice (some ⟨g, og, none⟩) I1.length vc_72_1) I1 :: boxW qv81 1 n2 ⟨#[]⟩ :: boxE qe82 :: boxW qv71 1 n1 ⟨#[]⟩ :: boxE qe72 :: boxV qb91 b :: boxV qa81 a :: heapR h H :: refR y H :: boxR q3 (.cells #[.int .i64 x0.kind, .int .i64 x0.n, .string x0.s, .int .i64 x1.kind, .int .i64 x1.n, .string x1.s] 34) :: []) w104 := by rw [Hb18_102.out] at S; exact S
              clear Hb18_102 Kb18_102 K18_1 Cb18_102_0
              refine named (boxE qe181 :: valsR (.slice (some ⟨g, og, none⟩) I1.length vc_72_1) I1 :: boxW qv81 1 n2 ⟨#[]⟩ :: boxE qe82 :: boxW qv71 1 n1 ⟨#[]⟩ :: boxE qe72 :: boxV qb91 b :: boxV qa81 a :: heapR h H :: refR y H :: boxR q3 (.cells #[.int .i64 x0.kind, .int .i64 x0.n, .string x0.s, .int .i64 x1.kind, .int .i64 x1.n, .string x1.s] 34) :: [] : List Res) fun b20_104 hb20_104 => ?_
              have Hb20_104 := Lib.hid hb20_104
              have Kb20_104 : Hid (∀ W (Q : List Res), Sep w (Q ++ b20_104) W → True) := Lib.hid fun W Q T => by
                rw [hb20_104] at T
                trivial
              replace S := Lib.hid S
              clear hb20_104
              go_upto_region 20 with fail
              have S1 : Sep w ([] ++ b20_104) (w104) := by rw [Hb20_104.out]; exact S.out
              clear S
              refine regionL (E := []) (base := b20_104) S1 ?_
              clear S1
              refine quietL ?_
              simp only [Act.put, pa]; try dsimp only [List.set]
              refine doneL (h := fun w106 S => ?_)
              replace S : Sep w (boxE qe181 :: valsR (.slice (some ⟨g, og, none⟩) I1.length vc_72_1) I1 :: boxW qv81 1 n2 ⟨#[]⟩ :: boxE qe82 :: boxW qv71 1 n1 ⟨#[]⟩ :: boxE qe72 :: boxV qb91 b :: boxV qa81 a :: heapR h H :: refR y H :: boxR q3 (.cells #[.int .i64 x0.kind, .int .i64 x0.n, .string x0.s, .int .i64 x1.kind, .int .i64 x1.n, .string x1.s] 34) :: []) w106 := by rw [Hb20_104.out] at S; exact S
              clear Hb20_104 Kb20_104
              replace S : Sep w ([boxE qe181, valsR (.slice (some ⟨g, og, none⟩) I1.length vc_72_1) I1, boxW qv81 1 n2 ⟨#[]⟩, boxE qe82, boxW qv71 1 n1 ⟨#[]⟩, boxE qe72, boxV qb91 b, boxV qa81 a, heapR h H, refR y H, boxR q3 (.cells #[.int .i64 x0.kind, .int .i64 x0.n, .string x0.s, .int .i64 x1.kind, .int .i64 x1.n, .string x1.s] 34)] ++ []) (w106) := by
                refine (show Sep w ([boxE qe181, valsR (.slice (some ⟨g, og, none⟩) I1.length vc_72_1) I1, boxW qv81 1 n2 ⟨#[]⟩, boxE qe82, boxW qv71 1 n1 ⟨#[]⟩, boxE qe72, boxV qb91 b, boxV qa81 a, heapR h H, refR y H, boxR q3 (.cells #[.int .i64 x0.kind, .int .i64 x0.n, .string x0.s, .int .i64 x1.kind, .int .i64 x1.n, .string x1.s] 34)] ++ []) _ from S).perm ?_
                exact List.Perm.append_right [] (perm_of (l := [boxE qe181, valsR (.slice (some ⟨g, og, none⟩) I1.length vc_72_1) I1, boxW qv81 1 n2 ⟨#[]⟩, boxE qe82, boxW qv71 1 n1 ⟨#[]⟩, boxE qe72, boxV qb91 b, boxV qa81 a, heapR h H, refR y H, boxR q3 (.cells #[.int .i64 x0.kind, .int .i64 x0.n, .string x0.s, .int .i64 x1.kind, .int .i64 x1.n, .string x1.s] 34)]) [0, 1, 2, 3, 4, 5, 6, 7, 8, 9, 10] (by show (List.range' 0 11).Perm [0, 1, 2, 3, 4, 5, 6, 7, 8, 9, 10]; decide) (by rfl))
              iterate 1 replace S := S.tail
              replace S : Sep w (valsR (.slice (some ⟨g, og, none⟩) I1.length vc_72_1) I1 :: boxW qv81 1 n2 ⟨#[]⟩ :: boxE qe82 :: boxW qv71 1 n1 ⟨#[]⟩ :: boxE qe72 :: boxV qb91 b :: boxV qa81 a :: heapR h H :: refR y H :: boxR q3 (.cells #[.int .i64 x0.kind, .int .i64 x0.n, .string x0.s, .int .i64 x1.kind, .int .i64 x1.n, .string x1.s] 34) :: []) (w106) := S
              have hi1 : IntKind.i64.wrap ((k : Int) + 1) = (k : Int) + 1 := IntWalk.i64_in _ (by have := HIL.out; omega)
              replace S := Lib.hid S
              go_wp2
              exact ⟨⟨k + 1, HLT.out, by go_num, Lib.hid (take_snoc HZ.out HA.out HS2.out.symm), S.out⟩, by have := HLT.out; simp [intOf]; omega⟩
            | some true, HS2 =>
              replace S : Sep w (valsR (.slice (some ⟨g, og, none⟩) I1.length vc_72_1) I1 :: boxW qv81 1 n2 ⟨#[]⟩ :: boxE qe82 :: boxW qv71 1 n1 ⟨#[]⟩ :: boxE qe72 :: boxV qb91 b :: boxV qa81 a :: heapR h H :: refR y H :: boxR q3 (.cells #[.int .i64 x0.kind, .int .i64 x0.n, .string x0.s, .int .i64 x1.kind, .int .i64 x1.n, .string x1.s] 34) :: []) wr := S
              refine named (valsR (.slice (some ⟨g, og, none⟩) I1.length vc_72_1) I1 :: boxW qv81 1 n2 ⟨#[]⟩ :: boxE qe82 :: boxW qv71 1 n1 ⟨#[]⟩ :: boxE qe72 :: boxV qb91 b :: boxV qa81 a :: heapR h H :: refR y H :: boxR q3 (.cells #[.int .i64 x0.kind, .int .i64 x0.n, .string x0.s, .int .i64 x1.kind, .int .i64 x1.n, .string x1.s] 34) :: [] : List Res) fun b17_100 hb17_100 => ?_
              have Hb17_100 := Lib.hid hb17_100
              have Kb17_100 : Hid (∀ W (Q : List Res), Sep w (Q ++ b17_100) W → True) := Lib.hid fun W Q T => by
                rw [hb17_100] at T
                trivial
              have Cb17_100_0 := baseC3 (w := w) (b := qa81) hb17_100 6 rfl
              have K17_6 : KC w b17_100 29 #[hpV h, agV z, agV a] (.tuple #[.bool true, excZ]) := Lib.hid fun W Q T => by
                rw [Hb17_100.out] at T ⊢
                exact (by have hh := sameOp_ok HF.out.G (by decide) (Q.length + 7) T (atR rfl) z a; rw [← HS2.out] at hh; exact hh)
              have R17_4 : Hid (∀ W (Q : List Res), Sep w (Q ++ b17_100) W → W.cell? ⟨g, og + k * 3, none⟩ = some (.int .i64 z.kind) ∧ W.cell? ⟨g, og + k * 3 + 1, none⟩ = some (.int .i64 z.n) ∧ W.cell? ⟨g, og + k * 3 + 2, none⟩ = some (.string z.s)) := Lib.hid fun W Q T => by rw [Hb17_100.out] at T; exact sepThree T (Q.length + 0) (atR rfl) HZ.out
              replace S := Lib.hid S
              clear hb17_100
              go_upto_region 17 with fail
              have S1 : Sep w ([] ++ b17_100) (wr) := by rw [Hb17_100.out]; exact S.out
              clear S
              refine regionP 10 3 (E := [emptyR]) (base := b17_100) (Sep.putE S1) ?_
              clear S1
              iterate 4 (refine quietP ?_; simp only [Act.put, pa]; try dsimp only [List.set])
              refine quietPC R17_4 ?_
              simp only [Act.put, pa]; try dsimp only [List.set]
              refine quietPC Cb17_100_0 ?_
              simp only [Act.put, pa]; try dsimp only [List.set]
              refine quietPK K17_6 ?_
              simp only [Act.put, pa]; try dsimp only [List.set]
              iterate 3 (refine quietP ?_; simp only [Act.put, pa]; try dsimp only [List.set])
              refine endP ?_
              refine readyS [10] ?_
              refine allocS 0 rfl (fun q => .pointer (some ⟨q, 0, none⟩)) (.cells #[.string ⟨#[]⟩, .int .i64 0, .int .i64 0, .string ⟨#[]⟩, .bool false] 38) (h1 := fun Wx => by go_simp) (h2 := fun qe181 => ?_) (hs := nilS)
              simp only [Act.put, pa]; try dsimp only [List.set]
              try simp only [List.set_cons_zero, List.set_cons_succ]
              refine quietS 11 ?_
              simp only [Act.put, pa]; try dsimp only [List.set]
              refine readyS [12] ?_
              refine detS undef [boxE qe181] (h1 := fun Wx hSw => by (have hz := hSw.box (b := qe181) (o := objE) 0 rfl; refine useZ5 hz fun z0 z1 z2 z3 z4 y0 y1 y2 y3 y4 => ?_; go_simp; exact ⟨rfl, hSw.set5 0 rfl (.string ⟨#[]⟩) (.int .i64 0) (.int .i64 0) (.string ⟨#[]⟩) (.bool false)⟩)) (h2 := ?_) (hs := nilS)
              simp only [Act.put, pa]; try dsimp only [List.set]
              refine doneS (h := fun w102 S => ?_)
              replace S : Sep w (boxE qe181 :: valsR (.slice (some ⟨g, og, none⟩) I1.length vc_72_1) I1 :: boxW qv81 1 n2 ⟨#[]⟩ :: boxE qe82 :: boxW qv71 1 n1 ⟨#[]⟩ :: boxE qe72 :: boxV qb91 b :: boxV qa81 a :: heapR h H :: refR y H :: boxR q3 (.cells #[.int .i64 x0.kind, .int .i64 x0.n, .string x0.s, .int .i64 x1.kind, .int .i64 x1.n, .string x1.s] 34) :: []) w102 := by rw [Hb17_100.out] at S; exact S
              clear Hb17_100 Kb17_100 K17_6 R17_4 Cb17_100_0
              refine named (boxE qe181 :: valsR (.slice (some ⟨g, og, none⟩) I1.length vc_72_1) I1 :: boxW qv81 1 n2 ⟨#[]⟩ :: boxE qe82 :: boxW qv71 1 n1 ⟨#[]⟩ :: boxE qe72 :: boxV qb91 b :: boxV qa81 a :: heapR h H :: refR y H :: boxR q3 (.cells #[.int .i64 x0.kind, .int .i64 x0.n, .string x0.s, .int .i64 x1.kind, .int .i64 x1.n, .string x1.s] 34) :: [] : List Res) fun b18_102 hb18_102 => ?_
              have Hb18_102 := Lib.hid hb18_102
              have Kb18_102 : Hid (∀ W (Q : List Res), Sep w (Q ++ b18_102) W → True) := Lib.hid fun W Q T => by
                rw [hb18_102] at T
                trivial
              have Cb18_102_0 := baseC5 (w := w) (b := qe181) hb18_102 0 rfl
              have K18_1 : KC w b18_102 19 #[excZ] (.bool true) := Lib.hid fun W Q T => by
                exact (none_z W).mono fun e W' ⟨e1, e2⟩ => ⟨e1, T.later e2⟩
              replace S := Lib.hid S
              clear hb18_102
              go_upto_region 18 with fail
              have S1 : Sep w ([] ++ b18_102) (w102) := by rw [Hb18_102.out]; exact S.out
              clear S
              refine regionL (E := []) (base := b18_102) S1 ?_
              clear S1
              refine quietLC Cb18_102_0 ?_
              simp only [Act.put, pa]; try dsimp only [List.set]
              refine quietLK K18_1 ?_
              simp only [Act.put, pa]; try dsimp only [List.set]
              refine quietL ?_
              simp only [Act.put, pa]; try dsimp only [List.set]
              refine doneL (h := fun w104 S => ?_)
              replace S : Sep w (boxE qe181 :: valsR (.slice (some ⟨g, og, none⟩) I1.length vc_72_1) I1 :: boxW qv81 1 n2 ⟨#[]⟩ :: boxE qe82 :: boxW qv71 1 n1 ⟨#[]⟩ :: boxE qe72 :: boxV qb91 b :: boxV qa81 a :: heapR h H :: refR y H :: boxR q3 (.cells #[.int .i64 x0.kind, .int .i64 x0.n, .string x0.s, .int .i64 x1.kind, .int .i64 x1.n, .string x1.s] 34) :: []) w104 := by rw [Hb18_102.out] at S; exact S
              clear Hb18_102 Kb18_102 K18_1 Cb18_102_0
              refine named (boxE qe181 :: valsR (.slice (some ⟨g, og, none⟩) I1.length vc_72_1) I1 :: boxW qv81 1 n2 ⟨#[]⟩ :: boxE qe82 :: boxW qv71 1 n1 ⟨#[]⟩ :: boxE qe72 :: boxV qb91 b :: boxV qa81 a :: heapR h H :: refR y H :: boxR q3 (.cells #[.int .i64 x0.kind, .int .i64 x0.n, .string x0.s, .int .i64 x1.kind, .int .i64 x1.n, .string x1.s] 34) :: [] : List Res) fun b20_104 hb20_104 => ?_
              have Hb20_104 := Lib.hid hb20_104
              have Kb20_104 : Hid (∀ W (Q : List Res), Sep w (Q ++ b20_104) W → True) := Lib.hid fun W Q T => by
                rw [hb20_104] at T
                trivial
              replace S := Lib.hid S
              clear hb20_104
              go_upto_region 20 with fail
              have S1 : Sep w ([] ++ b20_104) (w104) := by rw [Hb20_104.out]; exact S.out
              clear S
              refine regionL (E := []) (base := b20_104) S1 ?_
              clear S1
              refine quietL ?_
              simp only [Act.put, pa]; try dsimp only [List.set]
              refine doneL (h := fun w106 S => ?_)
              replace S : Sep w (boxE qe181 :: valsR (.slice (some ⟨g, og, none⟩) I1.length vc_72_1) I1 :: boxW qv81 1 n2 ⟨#[]⟩ :: boxE qe82 :: boxW qv71 1 n1 ⟨#[]⟩ :: boxE qe72 :: boxV qb91 b :: boxV qa81 a :: heapR h H :: refR y H :: boxR q3 (.cells #[.int .i64 x0.kind, .int .i64 x0.n, .string x0.s, .int .i64 x1.kind, .int .i64 x1.n, .string x1.s] 34) :: []) w106 := by rw [Hb20_104.out] at S; exact S
              clear Hb20_104 Kb20_104
              have hn1 : n1 = 1 := HT1.out (by have e := HIN.out; rw [inL_stop HZ.out HA.out (by rw [← HS2.out]; simp), ← HS2.out] at e; simp [sameC] at e; exact e)
              have hn1b : (n1 == 1) = true := by simp [hn1]
              refine named (boxE qe181 :: valsR (.slice (some ⟨g, og, none⟩) I1.length vc_72_1) I1 :: boxW qv81 1 n2 ⟨#[]⟩ :: boxE qe82 :: boxW qv71 1 n1 ⟨#[]⟩ :: boxE qe72 :: boxV qb91 b :: boxV qa81 a :: heapR h H :: refR y H :: boxR q3 (.cells #[.int .i64 x0.kind, .int .i64 x0.n, .string x0.s, .int .i64 x1.kind, .int .i64 x1.n, .string x1.s] 34) :: [] : List Res) fun b21_106 hb21_106 => ?_
              have Hb21_106 := Lib.hid hb21_106
              have Kb21_106 : Hid (∀ W (Q : List Res), Sep w (Q ++ b21_106) W → True) := Lib.hid fun W Q T => by
                rw [hb21_106] at T
                trivial
              have Cb21_106_0 := baseC5 (w := w) (b := qe72) hb21_106 5 rfl
              have Cb21_106_1 := baseC3 (w := w) (b := qv71) hb21_106 4 rfl
              have K21_1 : KC w b21_106 19 #[excZ] (.bool true) := Lib.hid fun W Q T => by
                exact (none_z W).mono fun e W' ⟨e1, e2⟩ => ⟨e1, T.later e2⟩
              have K21_4 : KC w b21_106 20 #[.bool true] (.agg #[.int .i64 1, .int .i64 1, .string ⟨#[]⟩]) := Lib.hid fun W Q T => by
                exact (lyes_ok W true).mono fun e W' ⟨e1, e2⟩ => ⟨e1, T.later e2⟩
              replace S := Lib.hid S
              clear hb21_106
              go_upto_region 21 with fail
              have S1 : Sep w ([] ++ b21_106) (w106) := by rw [Hb21_106.out]; exact S.out
              clear S
              refine regionP 8 0 (E := []) (base := b21_106) S1 ?_
              clear S1
              refine quietPC Cb21_106_0 ?_
              simp only [Act.put, pa]; try dsimp only [List.set]
              refine quietPK K21_1 ?_
              simp only [Act.put, pa]; try dsimp only [List.set]
              refine quietP ?_
              simp only [Act.put, pa]; try dsimp only [List.set]
              refine quietPC Cb21_106_1 ?_
              simp only [Act.put, pa]; try dsimp only [List.set]
              refine quietPK K21_4 ?_
              simp only [Act.put, pa]; try dsimp only [List.set]
              iterate 3 (refine quietP ?_; simp only [Act.put, pa]; try dsimp only [List.set])
              refine endP ?_
              refine doneS (h := fun w108 S => ?_)
              replace S : Sep w (boxE qe181 :: valsR (.slice (some ⟨g, og, none⟩) I1.length vc_72_1) I1 :: boxW qv81 1 n2 ⟨#[]⟩ :: boxE qe82 :: boxW qv71 1 n1 ⟨#[]⟩ :: boxE qe72 :: boxV qb91 b :: boxV qa81 a :: heapR h H :: refR y H :: boxR q3 (.cells #[.int .i64 x0.kind, .int .i64 x0.n, .string x0.s, .int .i64 x1.kind, .int .i64 x1.n, .string x1.s] 34) :: []) w108 := by rw [Hb21_106.out] at S; exact S
              clear Hb21_106 Kb21_106 K21_1 K21_4 Cb21_106_0 Cb21_106_1
              replace S := Lib.hid S.below
              go_wp2
              go_ret
              exact ⟨rfl, by rw [← HQ3.out]; exact S.out⟩
            | none, HS2 =>
              exfalso; have e := HIN.out; rw [inL_stop HZ.out HA.out (by rw [← HS2.out]; simp), ← HS2.out] at e; simp [sameC] at e
          ·
            obtain rfl : k = I1.length := by omega
            have hno : ¬ ((I1.length : Int) < I1.length) := by omega
            have HAL := HA
            clear hlt hk HA
            replace S : Sep w (valsR (.slice va_72_1 I1.length vc_72_1) I1 :: boxW qv81 1 n2 ⟨#[]⟩ :: boxE qe82 :: boxW qv71 1 n1 ⟨#[]⟩ :: boxE qe72 :: boxV qb91 b :: boxV qa81 a :: heapR h H :: refR y H :: boxR q3 (.cells #[.int .i64 x0.kind, .int .i64 x0.n, .string x0.s, .int .i64 x1.kind, .int .i64 x1.n, .string x1.s] 34) :: []) wr := S
            have hn1 : n1 = 0 := HF1.out (by have e := HIN.out; rw [inL_all (by have := HAL.out; rwa [List.take_length] at this)] at e; simp [sameC] at e; exact e)
            have hn1b : (n1 == 0) = true := by simp [hn1]
            refine named (valsR (.slice va_72_1 I1.length vc_72_1) I1 :: boxW qv81 1 n2 ⟨#[]⟩ :: boxE qe82 :: boxW qv71 1 n1 ⟨#[]⟩ :: boxE qe72 :: boxV qb91 b :: boxV qa81 a :: heapR h H :: refR y H :: boxR q3 (.cells #[.int .i64 x0.kind, .int .i64 x0.n, .string x0.s, .int .i64 x1.kind, .int .i64 x1.n, .string x1.s] 34) :: [] : List Res) fun b22_300 hb22_300 => ?_
            have Hb22_300 := Lib.hid hb22_300
            have Kb22_300 : Hid (∀ W (Q : List Res), Sep w (Q ++ b22_300) W → True) := Lib.hid fun W Q T => by
              rw [hb22_300] at T
              trivial
            have Cb22_300_0 := baseC5 (w := w) (b := qe72) hb22_300 4 rfl
            have Cb22_300_1 := baseC3 (w := w) (b := qv71) hb22_300 3 rfl
            have K22_1 : KC w b22_300 19 #[excZ] (.bool true) := Lib.hid fun W Q T => by
              exact (none_z W).mono fun e W' ⟨e1, e2⟩ => ⟨e1, T.later e2⟩
            have K22_4 : KC w b22_300 20 #[.bool false] (.agg #[.int .i64 1, .int .i64 0, .string ⟨#[]⟩]) := Lib.hid fun W Q T => by
              exact (lyes_ok W false).mono fun e W' ⟨e1, e2⟩ => ⟨e1, T.later e2⟩
            replace S := Lib.hid S
            clear hb22_300
            go_upto_region 22 with fail
            have S1 : Sep w ([] ++ b22_300) (wr) := by rw [Hb22_300.out]; exact S.out
            clear S
            refine regionP 8 0 (E := []) (base := b22_300) S1 ?_
            clear S1
            refine quietPC Cb22_300_0 ?_
            simp only [Act.put, pa]; try dsimp only [List.set]
            refine quietPK K22_1 ?_
            simp only [Act.put, pa]; try dsimp only [List.set]
            refine quietP ?_
            simp only [Act.put, pa]; try dsimp only [List.set]
            refine quietPC Cb22_300_1 ?_
            simp only [Act.put, pa]; try dsimp only [List.set]
            refine quietPK K22_4 ?_
            simp only [Act.put, pa]; try dsimp only [List.set]
            iterate 3 (refine quietP ?_; simp only [Act.put, pa]; try dsimp only [List.set])
            refine endP ?_
            refine doneS (h := fun w302 S => ?_)
            replace S : Sep w (valsR (.slice va_72_1 I1.length vc_72_1) I1 :: boxW qv81 1 n2 ⟨#[]⟩ :: boxE qe82 :: boxW qv71 1 n1 ⟨#[]⟩ :: boxE qe72 :: boxV qb91 b :: boxV qa81 a :: heapR h H :: refR y H :: boxR q3 (.cells #[.int .i64 x0.kind, .int .i64 x0.n, .string x0.s, .int .i64 x1.kind, .int .i64 x1.n, .string x1.s] 34) :: []) w302 := by rw [Hb22_300.out] at S; exact S
            clear Hb22_300 Kb22_300 K22_1 K22_4 Cb22_300_0 Cb22_300_1
            replace S := Lib.hid S.below
            go_wp2
            go_ret
            exact ⟨rfl, by rw [← HQ3.out]; exact S.out⟩
    · have hd : H.rowB b = false ∧ ¬ b.kind = 3 ∧ H.kind b = 3 := by
        have e := HQ.out
        unfold HeapM.inC at e
        rw [if_neg (fun x => hss ⟨x.2, x.1⟩), if_neg hrow] at e
        by_cases h3 : H.kind b = 3 ∧ a.isKey = true
        · have h4 := H.kind_ref b (by omega)
          exact ⟨by simpa using hrow, by omega, h3.1⟩
        · rw [if_neg h3] at e; cases e
      have HKD := Lib.hid hd
      clear hd hrow hss
      have hkk : ¬ kb = 1 ∧ ¬ kb = 2 := by rw [← HKB.out]; have := HKD.out.1; unfold HeapM.rowB at this; simpa using this
      obtain ⟨hk1, hk2⟩ := hkk
      have hk1b : (kb == 1) = false := by simpa using hk1
      have hk2b : (kb == 2) = false := by simpa using hk2
      refine named (boxW qv81 1 n2 ⟨#[]⟩ :: boxE qe82 :: boxW qv71 1 n1 ⟨#[]⟩ :: boxE qe72 :: boxV qb91 b :: boxV qa81 a :: heapR h H :: refR y H :: boxR q3 (.cells #[.int .i64 x0.kind, .int .i64 x0.n, .string x0.s, .int .i64 x1.kind, .int .i64 x1.n, .string x1.s] 34) :: [] : List Res) fun b12_14 hb12_14 => ?_
      have Hb12_14 := Lib.hid hb12_14
      have Kb12_14 : Hid (∀ W (Q : List Res), Sep w (Q ++ b12_14) W → True) := Lib.hid fun W Q T => by
        rw [hb12_14] at T
        trivial
      replace S := Lib.hid S
      clear hb12_14
      go_upto_region 12 with fail
      have S1 : Sep w ([] ++ b12_14) (w14) := by rw [Hb12_14.out]; exact S.out
      clear S
      refine regionL (E := []) (base := b12_14) S1 ?_
      clear S1
      iterate 6 (refine quietL ?_; simp only [Act.put, pa]; try dsimp only [List.set])
      refine doneL (h := fun w16 S => ?_)
      replace S : Sep w (boxW qv81 1 n2 ⟨#[]⟩ :: boxE qe82 :: boxW qv71 1 n1 ⟨#[]⟩ :: boxE qe72 :: boxV qb91 b :: boxV qa81 a :: heapR h H :: refR y H :: boxR q3 (.cells #[.int .i64 x0.kind, .int .i64 x0.n, .string x0.s, .int .i64 x1.kind, .int .i64 x1.n, .string x1.s] 34) :: []) w16 := by rw [Hb12_14.out] at S; exact S
      clear Hb12_14 Kb12_14
      clear hk1 hk2 hk1b hk2b
      have hb3 : (b.kind != 3) = true := by simpa using HKD.out.2.1
      have hb3n : ¬ b.kind = 3 := HKD.out.2.1
      refine named (boxW qv81 1 n2 ⟨#[]⟩ :: boxE qe82 :: boxW qv71 1 n1 ⟨#[]⟩ :: boxE qe72 :: boxV qb91 b :: boxV qa81 a :: heapR h H :: refR y H :: boxR q3 (.cells #[.int .i64 x0.kind, .int .i64 x0.n, .string x0.s, .int .i64 x1.kind, .int .i64 x1.n, .string x1.s] 34) :: [] : List Res) fun b23_16 hb23_16 => ?_
      have Hb23_16 := Lib.hid hb23_16
      have Kb23_16 : Hid (∀ W (Q : List Res), Sep w (Q ++ b23_16) W → True) := Lib.hid fun W Q T => by
        rw [hb23_16] at T
        trivial
      have Cb23_16_0 := baseC3 (w := w) (b := qb91) hb23_16 4 rfl
      replace S := Lib.hid S
      clear hb23_16
      go_upto_region 23 with fail
      have S1 : Sep w ([] ++ b23_16) (w16) := by rw [Hb23_16.out]; exact S.out
      clear S
      refine regionL (E := []) (base := b23_16) S1 ?_
      clear S1
      refine quietL ?_
      simp only [Act.put, pa]; try dsimp only [List.set]
      refine quietLC Cb23_16_0 ?_
      simp only [Act.put, pa]; try dsimp only [List.set]
      refine quietL ?_
      simp only [Act.put, pa]; try dsimp only [List.set]
      refine doneL (h := fun w18 S => ?_)
      replace S : Sep w (boxW qv81 1 n2 ⟨#[]⟩ :: boxE qe82 :: boxW qv71 1 n1 ⟨#[]⟩ :: boxE qe72 :: boxV qb91 b :: boxV qa81 a :: heapR h H :: refR y H :: boxR q3 (.cells #[.int .i64 x0.kind, .int .i64 x0.n, .string x0.s, .int .i64 x1.kind, .int .i64 x1.n, .string x1.s] 34) :: []) w18 := by rw [Hb23_16.out] at S; exact S
      clear Hb23_16 Kb23_16 Cb23_16_0
      have hk3 : (kb == 3) = true := by have := HKD.out.2.2; rw [HKB.out] at this; simp [this]
      have hk3n : kb = 3 := by simpa using hk3
      refine named (boxW qv81 1 n2 ⟨#[]⟩ :: boxE qe82 :: boxW qv71 1 n1 ⟨#[]⟩ :: boxE qe72 :: boxV qb91 b :: boxV qa81 a :: heapR h H :: refR y H :: boxR q3 (.cells #[.int .i64 x0.kind, .int .i64 x0.n, .string x0.s, .int .i64 x1.kind, .int .i64 x1.n, .string x1.s] 34) :: [] : List Res) fun b24_18 hb24_18 => ?_
      have Hb24_18 := Lib.hid hb24_18
      have Kb24_18 : Hid (∀ W (Q : List Res), Sep w (Q ++ b24_18) W → True) := Lib.hid fun W Q T => by
        rw [hb24_18] at T
        trivial
      replace S := Lib.hid S
      clear hb24_18
      go_upto_region 24 with fail
      have S1 : Sep w ([] ++ b24_18) (w18) := by rw [Hb24_18.out]; exact S.out
      clear S
      refine regionL (E := []) (base := b24_18) S1 ?_
      clear S1
      iterate 3 (refine quietL ?_; simp only [Act.put, pa]; try dsimp only [List.set])
      iterate 2 (refine skipL ?_; simp only [Act.put, pa]; try dsimp only [List.set])
      iterate 2 (refine quietL ?_; simp only [Act.put, pa]; try dsimp only [List.set])
      refine doneL (h := fun w20 S => ?_)
      replace S : Sep w (boxW qv81 1 n2 ⟨#[]⟩ :: boxE qe82 :: boxW qv71 1 n1 ⟨#[]⟩ :: boxE qe72 :: boxV qb91 b :: boxV qa81 a :: heapR h H :: refR y H :: boxR q3 (.cells #[.int .i64 x0.kind, .int .i64 x0.n, .string x0.s, .int .i64 x1.kind, .int .i64 x1.n, .string x1.s] 34) :: []) w20 := by rw [Hb24_18.out] at S; exact S
      clear Hb24_18 Kb24_18
      replace S := Lib.hid S.below
      go_wp2
      go_ret
      exact ⟨rfl, by rw [← HQ3.out]; exact S.out⟩
set_option maxRecDepth 100000 in
set_option maxHeartbeats 12800000 in
theorem walk_y (w : World) (sl : Value) (l : List ObjI) (hs : SeesO w sl l) (x0 x1 : V) (m : Int) (hm : w.cell? ⟨0, 0, none⟩ = some (.int .i64 m)) (hq : (madeO l).inC (plainV x0) (plainV x1) = .type) :
    Calls Tryz.prog 8 #[sl, .agg #[.int .i64 x0.kind, .int .i64 x0.n, .string x0.s, .int .i64 x1.kind, .int .i64 x1.n, .string x1.s]] w fun e W' => e = .returned (.bool true) ∧ Below w.heap.size w W' := by
  obtain ⟨a, ha⟩ : ∃ a, a = plainV x0 := ⟨_, rfl⟩
  obtain ⟨b, hb⟩ : ∃ b, b = plainV x1 := ⟨_, rfl⟩
  obtain ⟨H, hH⟩ : ∃ H, H = madeO l := ⟨_, rfl⟩
  rw [← ha, ← hb, ← hH] at hq
  have HF : Hid (H.Fit 200) := Lib.hid (by rw [hH]; exact madeO_fit hs.2)
  have HSZ : Hid (b.s.size < 4294967281) := Lib.hid (by rw [hb]; have := plain_size x1; omega)
  have Ha_ := Lib.hid ha
  have Hb_ := Lib.hid hb
  have HH_ := Lib.hid hH
  have HQ := Lib.hid hq
  have HM := Lib.hid hm
  have HS := Lib.hid hs
  have S := Sep.start (Below.refl w.heap.size w)
  obtain ⟨q3, hq3⟩ : ∃ gx_, (w.heap.size) = gx_ := ⟨_, rfl⟩
  replace S := S.alloc (.cells #[.int .i64 x0.kind, .int .i64 x0.n, .string x0.s, .int .i64 x1.kind, .int .i64 x1.n, .string x1.s] 34)
  rw [hq3] at S ⊢
  have M0 := Lib.hid (shown_ok S)
  clear S ha hb hH hq hm hs
  go_enter Tryz.func8, Tryz.ntmps8
  go_upto_region 1 with fail
  try simp only [hq3]
  have HQ3 := Lib.hid hq3
  clear hq3
  go_wp2_with fail
  refine M0.out.mono ?_
  rintro e w1 ⟨rfl, S⟩
  clear M0
  have M := Lib.hid (made16_ok S sl l HS.out)
  clear S
  go_wp2_with fail
  refine M.out.mono ?_
  rintro e w2 ⟨h, y, rfl, S⟩
  clear M
  rw [← HH_.out] at S
  replace S : Sep w (heapR h H :: refR y H :: boxR q3 (.cells #[.int .i64 x0.kind, .int .i64 x0.n, .string x0.s, .int .i64 x1.kind, .int .i64 x1.n, .string x1.s] 34) :: []) _ := S
  refine named (heapR h H :: refR y H :: boxR q3 (.cells #[.int .i64 x0.kind, .int .i64 x0.n, .string x0.s, .int .i64 x1.kind, .int .i64 x1.n, .string x1.s] 34) :: [] : List Res) fun b5_2 hb5_2 => ?_
  have Hb5_2 := Lib.hid hb5_2
  have Kb5_2 : Hid (∀ W (Q : List Res), Sep w (Q ++ b5_2) W → True) := Lib.hid fun W Q T => by
    rw [hb5_2] at T
    trivial
  have Cb5_2_0 : Hid (∀ W (Q : List Res), Sep w (Q ++ b5_2) W → W.cell? ⟨q3, 0, none⟩ = some (.int .i64 x0.kind) ∧ W.cell? ⟨q3, 1, none⟩ = some (.int .i64 x0.n) ∧ W.cell? ⟨q3, 2, none⟩ = some (.string x0.s) ∧ W.cell? ⟨q3, 3, none⟩ = some (.int .i64 x1.kind) ∧ W.cell? ⟨q3, 4, none⟩ = some (.int .i64 x1.n) ∧ W.cell? ⟨q3, 5, none⟩ = some (.string x1.s)) := Lib.hid fun W Q T => by
    rw [hb5_2] at T
    have i0 := T.box (b := q3) (o := .cells #[.int .i64 x0.kind, .int .i64 x0.n, .string x0.s, .int .i64 x1.kind, .int .i64 x1.n, .string x1.s] 34) (Q.length + 2) (atR rfl)
    exact ⟨cellAt i0 0 rfl, cellAt i0 1 rfl, cellAt i0 2 rfl, cellAt i0 3 rfl, cellAt i0 4 rfl, cellAt i0 5 rfl⟩
  have K5_2 : KC w b5_2 28 #[agV x0] (.agg #[.int .i64 a.kind, .int .i64 a.n, .string a.s]) := Lib.hid fun W Q T => by
    rw [Hb5_2.out] at T ⊢
    exact (by have hh := lplain_ok T x0; rw [← Ha_.out] at hh; exact hh)
  replace S := Lib.hid S
  clear hb5_2
  go_upto_region 5 with fail
  have S1 : Sep w ([] ++ b5_2) (w2) := by rw [Hb5_2.out]; exact S.out
  clear S
  refine regionL (E := [emptyR]) (base := b5_2) (Sep.putE S1) ?_
  clear S1
  refine quietL ?_
  simp only [Act.put, pa]; try dsimp only [List.set]
  refine quietL (hy := fun E Wx hSw => by ((obtain ⟨u0, u1, u2, u3, u4, u5⟩ := Cb5_2_0.out _ _ hSw); go_simp; exact ⟨rfl, hSw⟩)) (h := ?_)
  simp only [Act.put, pa]; try dsimp only [List.set]
  refine quietLK K5_2 ?_
  simp only [Act.put, pa]; try dsimp only [List.set]
  refine allocL 0 rfl (fun q => .pointer (some ⟨q, 0, none⟩)) (.cells #[.int .i64 0, .int .i64 0, .string ⟨#[]⟩] 29) (h1 := fun Wx => by go_simp) (h2 := fun qa81 => ?_)
  simp only [Act.put, pa]; try dsimp only [List.set]
  try simp only [List.set_cons_zero, List.set_cons_succ]
  refine detL undef [boxV qa81 a] (h1 := fun Wx hSw => by (have hz := hSw.box (b := qa81) (o := objZ) 0 rfl; refine useZ3 hz fun z0 z1 z2 y0 y1 y2 => ?_; go_simp; exact ⟨rfl, hSw.set3 0 rfl (.int .i64 a.kind) (.int .i64 a.n) (.string a.s)⟩)) (h2 := ?_)
  simp only [Act.put, pa]; try dsimp only [List.set]
  refine doneL (h := fun w4 S => ?_)
  replace S : Sep w (boxV qa81 a :: heapR h H :: refR y H :: boxR q3 (.cells #[.int .i64 x0.kind, .int .i64 x0.n, .string x0.s, .int .i64 x1.kind, .int .i64 x1.n, .string x1.s] 34) :: []) w4 := by rw [Hb5_2.out] at S; exact S
  clear Hb5_2 Kb5_2 K5_2 Cb5_2_0
  refine named (boxV qa81 a :: heapR h H :: refR y H :: boxR q3 (.cells #[.int .i64 x0.kind, .int .i64 x0.n, .string x0.s, .int .i64 x1.kind, .int .i64 x1.n, .string x1.s] 34) :: [] : List Res) fun b6_4 hb6_4 => ?_
  have Hb6_4 := Lib.hid hb6_4
  have Kb6_4 : Hid (∀ W (Q : List Res), Sep w (Q ++ b6_4) W → True) := Lib.hid fun W Q T => by
    rw [hb6_4] at T
    trivial
  have Cb6_4_0 : Hid (∀ W (Q : List Res), Sep w (Q ++ b6_4) W → W.cell? ⟨q3, 0, none⟩ = some (.int .i64 x0.kind) ∧ W.cell? ⟨q3, 1, none⟩ = some (.int .i64 x0.n) ∧ W.cell? ⟨q3, 2, none⟩ = some (.string x0.s) ∧ W.cell? ⟨q3, 3, none⟩ = some (.int .i64 x1.kind) ∧ W.cell? ⟨q3, 4, none⟩ = some (.int .i64 x1.n) ∧ W.cell? ⟨q3, 5, none⟩ = some (.string x1.s)) := Lib.hid fun W Q T => by
    rw [hb6_4] at T
    have i0 := T.box (b := q3) (o := .cells #[.int .i64 x0.kind, .int .i64 x0.n, .string x0.s, .int .i64 x1.kind, .int .i64 x1.n, .string x1.s] 34) (Q.length + 3) (atR rfl)
    exact ⟨cellAt i0 0 rfl, cellAt i0 1 rfl, cellAt i0 2 rfl, cellAt i0 3 rfl, cellAt i0 4 rfl, cellAt i0 5 rfl⟩
  have K6_2 : KC w b6_4 28 #[agV x1] (.agg #[.int .i64 b.kind, .int .i64 b.n, .string b.s]) := Lib.hid fun W Q T => by
    rw [Hb6_4.out] at T ⊢
    exact (by have hh := lplain_ok T x1; rw [← Hb_.out] at hh; exact hh)
  replace S := Lib.hid S
  clear hb6_4
  go_upto_region 6 with fail
  have S1 : Sep w ([] ++ b6_4) (w4) := by rw [Hb6_4.out]; exact S.out
  clear S
  refine regionL (E := [emptyR]) (base := b6_4) (Sep.putE S1) ?_
  clear S1
  refine quietL ?_
  simp only [Act.put, pa]; try dsimp only [List.set]
  refine quietL (hy := fun E Wx hSw => by ((obtain ⟨u0, u1, u2, u3, u4, u5⟩ := Cb6_4_0.out _ _ hSw); go_simp; exact ⟨rfl, hSw⟩)) (h := ?_)
  simp only [Act.put, pa]; try dsimp only [List.set]
  refine quietLK K6_2 ?_
  simp only [Act.put, pa]; try dsimp only [List.set]
  refine allocL 0 rfl (fun q => .pointer (some ⟨q, 0, none⟩)) (.cells #[.int .i64 0, .int .i64 0, .string ⟨#[]⟩] 29) (h1 := fun Wx => by go_simp) (h2 := fun qb91 => ?_)
  simp only [Act.put, pa]; try dsimp only [List.set]
  try simp only [List.set_cons_zero, List.set_cons_succ]
  refine detL undef [boxV qb91 b] (h1 := fun Wx hSw => by (have hz := hSw.box (b := qb91) (o := objZ) 0 rfl; refine useZ3 hz fun z0 z1 z2 y0 y1 y2 => ?_; go_simp; exact ⟨rfl, hSw.set3 0 rfl (.int .i64 b.kind) (.int .i64 b.n) (.string b.s)⟩)) (h2 := ?_)
  simp only [Act.put, pa]; try dsimp only [List.set]
  refine doneL (h := fun w6 S => ?_)
  replace S : Sep w (boxV qb91 b :: boxV qa81 a :: heapR h H :: refR y H :: boxR q3 (.cells #[.int .i64 x0.kind, .int .i64 x0.n, .string x0.s, .int .i64 x1.kind, .int .i64 x1.n, .string x1.s] 34) :: []) w6 := by rw [Hb6_4.out] at S; exact S
  clear Hb6_4 Kb6_4 K6_2 Cb6_4_0
  refine named (boxV qb91 b :: boxV qa81 a :: heapR h H :: refR y H :: boxR q3 (.cells #[.int .i64 x0.kind, .int .i64 x0.n, .string x0.s, .int .i64 x1.kind, .int .i64 x1.n, .string x1.s] 34) :: [] : List Res) fun b7_6 hb7_6 => ?_
  have Hb7_6 := Lib.hid hb7_6
  have Kb7_6 : Hid (∀ W (Q : List Res), Sep w (Q ++ b7_6) W → True) := Lib.hid fun W Q T => by
    rw [hb7_6] at T
    trivial
  have Cb7_6_0 := baseC3 (w := w) (b := qa81) hb7_6 1 rfl
  have Cb7_6_1 := baseC3 (w := w) (b := qb91) hb7_6 0 rfl
  have K7_3 : KC w b7_6 18 #[hpV h, .string ⟨#[105, 110]⟩, agV a, agV b] (.tuple #[zeroV, excN typeError]) := Lib.hid fun W Q T => by
    rw [Hb7_6.out] at T ⊢
    exact (by have hh := cmp_isin HF.out.G (by decide) a b HSZ.out m HM.out T (Q.length + 2) (atR rfl); rw [HQ.out] at hh; exact hh)
  replace S := Lib.hid S
  clear hb7_6
  go_upto_region 7 with fail
  have S1 : Sep w ([] ++ b7_6) (w6) := by rw [Hb7_6.out]; exact S.out
  clear S
  refine regionL (E := [emptyR, emptyR]) (base := b7_6) (Sep.putE (Sep.putE S1)) ?_
  clear S1
  refine quietL ?_
  simp only [Act.put, pa]; try dsimp only [List.set]
  refine quietLC Cb7_6_0 ?_
  simp only [Act.put, pa]; try dsimp only [List.set]
  refine quietLC Cb7_6_1 ?_
  simp only [Act.put, pa]; try dsimp only [List.set]
  refine quietLK K7_3 ?_
  simp only [Act.put, pa]; try dsimp only [List.set]
  iterate 3 (refine quietL ?_; simp only [Act.put, pa]; try dsimp only [List.set])
  refine allocL 0 rfl (fun q => .pointer (some ⟨q, 0, none⟩)) (.cells #[.int .i64 0, .int .i64 0, .string ⟨#[]⟩] 29) (h1 := fun Wx => by go_simp) (h2 := fun qv71 => ?_)
  simp only [Act.put, pa]; try dsimp only [List.set]
  try simp only [List.set_cons_zero, List.set_cons_succ]
  refine allocL 1 rfl (fun q => .pointer (some ⟨q, 0, none⟩)) (.cells #[.string ⟨#[]⟩, .int .i64 0, .int .i64 0, .string ⟨#[]⟩, .bool false] 38) (h1 := fun Wx => by go_simp) (h2 := fun qe72 => ?_)
  simp only [Act.put, pa]; try dsimp only [List.set]
  try simp only [List.set_cons_zero, List.set_cons_succ]
  refine detL undef [boxZ qv71, boxE qe72] (h1 := fun Wx hSw => by (have hz := hSw.box (b := qv71) (o := objZ) 0 rfl; refine useZ3 hz fun z0 z1 z2 y0 y1 y2 => ?_; go_simp; exact ⟨rfl, hSw.set3 0 rfl (.int .i64 0) (.int .i64 0) (.string ⟨#[]⟩)⟩)) (h2 := ?_)
  simp only [Act.put, pa]; try dsimp only [List.set]
  refine detL undef [boxZ qv71, boxN qe72 typeError] (h1 := fun Wx hSw => by (have hz := hSw.box (b := qe72) (o := objE) 1 rfl; refine useZ5 hz fun z0 z1 z2 z3 z4 y0 y1 y2 y3 y4 => ?_; go_simp; exact ⟨rfl, hSw.set5 1 rfl (.string typeError) (.int .i64 0) (.int .i64 0) (.string ⟨#[]⟩) (.bool false)⟩)) (h2 := ?_)
  simp only [Act.put, pa]; try dsimp only [List.set]
  refine doneL (h := fun w8 S => ?_)
  replace S : Sep w (boxZ qv71 :: boxN qe72 typeError :: boxV qb91 b :: boxV qa81 a :: heapR h H :: refR y H :: boxR q3 (.cells #[.int .i64 x0.kind, .int .i64 x0.n, .string x0.s, .int .i64 x1.kind, .int .i64 x1.n, .string x1.s] 34) :: []) w8 := by rw [Hb7_6.out] at S; exact S
  clear Hb7_6 Kb7_6 K7_3 Cb7_6_0 Cb7_6_1
  refine named (boxZ qv71 :: boxN qe72 typeError :: boxV qb91 b :: boxV qa81 a :: heapR h H :: refR y H :: boxR q3 (.cells #[.int .i64 x0.kind, .int .i64 x0.n, .string x0.s, .int .i64 x1.kind, .int .i64 x1.n, .string x1.s] 34) :: [] : List Res) fun b8_8 hb8_8 => ?_
  have Hb8_8 := Lib.hid hb8_8
  have Kb8_8 : Hid (∀ W (Q : List Res), Sep w (Q ++ b8_8) W → True) := Lib.hid fun W Q T => by
    rw [hb8_8] at T
    trivial
  have Cb8_8_0 := baseC3 (w := w) (b := qa81) hb8_8 3 rfl
  have Cb8_8_1 := baseC3 (w := w) (b := qb91) hb8_8 2 rfl
  have K8_3 : KC w b8_8 18 #[hpV h, .string ⟨#[110, 111, 116, 32, 105, 110]⟩, agV a, agV b] (.tuple #[zeroV, excN typeError]) := Lib.hid fun W Q T => by
    rw [Hb8_8.out] at T ⊢
    exact (by have hh := cmp_notin HF.out.G (by decide) a b HSZ.out m HM.out T (Q.length + 4) (atR rfl); rw [HQ.out] at hh; exact hh)
  replace S := Lib.hid S
  clear hb8_8
  go_upto_region 8 with fail
  have S1 : Sep w ([] ++ b8_8) (w8) := by rw [Hb8_8.out]; exact S.out
  clear S
  refine regionL (E := [emptyR, emptyR]) (base := b8_8) (Sep.putE (Sep.putE S1)) ?_
  clear S1
  refine quietL ?_
  simp only [Act.put, pa]; try dsimp only [List.set]
  refine quietLC Cb8_8_0 ?_
  simp only [Act.put, pa]; try dsimp only [List.set]
  refine quietLC Cb8_8_1 ?_
  simp only [Act.put, pa]; try dsimp only [List.set]
  refine quietLK K8_3 ?_
  simp only [Act.put, pa]; try dsimp only [List.set]
  iterate 3 (refine quietL ?_; simp only [Act.put, pa]; try dsimp only [List.set])
  refine allocL 0 rfl (fun q => .pointer (some ⟨q, 0, none⟩)) (.cells #[.int .i64 0, .int .i64 0, .string ⟨#[]⟩] 29) (h1 := fun Wx => by go_simp) (h2 := fun qv81 => ?_)
  simp only [Act.put, pa]; try dsimp only [List.set]
  try simp only [List.set_cons_zero, List.set_cons_succ]
  refine allocL 1 rfl (fun q => .pointer (some ⟨q, 0, none⟩)) (.cells #[.string ⟨#[]⟩, .int .i64 0, .int .i64 0, .string ⟨#[]⟩, .bool false] 38) (h1 := fun Wx => by go_simp) (h2 := fun qe82 => ?_)
  simp only [Act.put, pa]; try dsimp only [List.set]
  try simp only [List.set_cons_zero, List.set_cons_succ]
  refine detL undef [boxZ qv81, boxE qe82] (h1 := fun Wx hSw => by (have hz := hSw.box (b := qv81) (o := objZ) 0 rfl; refine useZ3 hz fun z0 z1 z2 y0 y1 y2 => ?_; go_simp; exact ⟨rfl, hSw.set3 0 rfl (.int .i64 0) (.int .i64 0) (.string ⟨#[]⟩)⟩)) (h2 := ?_)
  simp only [Act.put, pa]; try dsimp only [List.set]
  refine detL undef [boxZ qv81, boxN qe82 typeError] (h1 := fun Wx hSw => by (have hz := hSw.box (b := qe82) (o := objE) 1 rfl; refine useZ5 hz fun z0 z1 z2 z3 z4 y0 y1 y2 y3 y4 => ?_; go_simp; exact ⟨rfl, hSw.set5 1 rfl (.string typeError) (.int .i64 0) (.int .i64 0) (.string ⟨#[]⟩) (.bool false)⟩)) (h2 := ?_)
  simp only [Act.put, pa]; try dsimp only [List.set]
  refine doneL (h := fun w10 S => ?_)
  replace S : Sep w (boxZ qv81 :: boxN qe82 typeError :: boxZ qv71 :: boxN qe72 typeError :: boxV qb91 b :: boxV qa81 a :: heapR h H :: refR y H :: boxR q3 (.cells #[.int .i64 x0.kind, .int .i64 x0.n, .string x0.s, .int .i64 x1.kind, .int .i64 x1.n, .string x1.s] 34) :: []) w10 := by rw [Hb8_8.out] at S; exact S
  clear Hb8_8 Kb8_8 K8_3 Cb8_8_0 Cb8_8_1
  refine named (boxZ qv81 :: boxN qe82 typeError :: boxZ qv71 :: boxN qe72 typeError :: boxV qb91 b :: boxV qa81 a :: heapR h H :: refR y H :: boxR q3 (.cells #[.int .i64 x0.kind, .int .i64 x0.n, .string x0.s, .int .i64 x1.kind, .int .i64 x1.n, .string x1.s] 34) :: [] : List Res) fun b9_10 hb9_10 => ?_
  have Hb9_10 := Lib.hid hb9_10
  have Kb9_10 : Hid (∀ W (Q : List Res), Sep w (Q ++ b9_10) W → True) := Lib.hid fun W Q T => by
    rw [hb9_10] at T
    trivial
  have Cb9_10_0 := baseC5 (w := w) (b := qe72) hb9_10 3 rfl
  have Cb9_10_1 := baseC5 (w := w) (b := qe82) hb9_10 1 rfl
  have K9_5 : KC w b9_10 19 #[excN typeError] (.bool false) := Lib.hid fun W Q T => by
    exact (none_type W).mono fun e W' ⟨e1, e2⟩ => ⟨e1, T.later e2⟩
  replace S := Lib.hid S
  clear hb9_10
  go_upto_region 9 with fail
  have S1 : Sep w ([] ++ b9_10) (w10) := by rw [Hb9_10.out]; exact S.out
  clear S
  refine regionL (E := []) (base := b9_10) S1 ?_
  clear S1
  refine quietLC Cb9_10_0 ?_
  simp only [Act.put, pa]; try dsimp only [List.set]
  refine quietLC Cb9_10_1 ?_
  simp only [Act.put, pa]; try dsimp only [List.set]
  iterate 2 (refine quietL ?_; simp only [Act.put, pa]; try dsimp only [List.set])
  refine quietLC Cb9_10_0 ?_
  simp only [Act.put, pa]; try dsimp only [List.set]
  refine quietLK K9_5 ?_
  simp only [Act.put, pa]; try dsimp only [List.set]
  refine quietL ?_
  simp only [Act.put, pa]; try dsimp only [List.set]
  iterate 13 (refine skipL ?_; simp only [Act.put, pa]; try dsimp only [List.set])
  iterate 2 (refine quietL ?_; simp only [Act.put, pa]; try dsimp only [List.set])
  refine doneL (h := fun w12 S => ?_)
  replace S : Sep w (boxZ qv81 :: boxN qe82 typeError :: boxZ qv71 :: boxN qe72 typeError :: boxV qb91 b :: boxV qa81 a :: heapR h H :: refR y H :: boxR q3 (.cells #[.int .i64 x0.kind, .int .i64 x0.n, .string x0.s, .int .i64 x1.kind, .int .i64 x1.n, .string x1.s] 34) :: []) w12 := by rw [Hb9_10.out] at S; exact S
  clear Hb9_10 Kb9_10 K9_5 Cb9_10_0 Cb9_10_1
  obtain ⟨kb, hkb⟩ : ∃ k, H.kind b = k := ⟨_, rfl⟩
  have HKB := Lib.hid hkb
  clear hkb
  refine named (boxZ qv81 :: boxN qe82 typeError :: boxZ qv71 :: boxN qe72 typeError :: boxV qb91 b :: boxV qa81 a :: heapR h H :: refR y H :: boxR q3 (.cells #[.int .i64 x0.kind, .int .i64 x0.n, .string x0.s, .int .i64 x1.kind, .int .i64 x1.n, .string x1.s] 34) :: [] : List Res) fun b11_12 hb11_12 => ?_
  have Hb11_12 := Lib.hid hb11_12
  have Kb11_12 : Hid (∀ W (Q : List Res), Sep w (Q ++ b11_12) W → True) := Lib.hid fun W Q T => by
    rw [hb11_12] at T
    trivial
  have Cb11_12_0 := baseC3 (w := w) (b := qb91) hb11_12 4 rfl
  have K11_2 : KC w b11_12 30 #[hpV h, agV b] (.int .i64 kb) := Lib.hid fun W Q T => by
    rw [Hb11_12.out] at T ⊢
    exact kind_at T (Q.length + 6) (atR rfl) b kb HKB.out
  replace S := Lib.hid S
  clear hb11_12
  go_upto_region 11 with fail
  have S1 : Sep w ([] ++ b11_12) (w12) := by rw [Hb11_12.out]; exact S.out
  clear S
  refine regionL (E := []) (base := b11_12) S1 ?_
  clear S1
  refine quietL ?_
  simp only [Act.put, pa]; try dsimp only [List.set]
  refine quietLC Cb11_12_0 ?_
  simp only [Act.put, pa]; try dsimp only [List.set]
  refine quietLK K11_2 ?_
  simp only [Act.put, pa]; try dsimp only [List.set]
  refine quietL ?_
  simp only [Act.put, pa]; try dsimp only [List.set]
  refine doneL (h := fun w14 S => ?_)
  replace S : Sep w (boxZ qv81 :: boxN qe82 typeError :: boxZ qv71 :: boxN qe72 typeError :: boxV qb91 b :: boxV qa81 a :: heapR h H :: refR y H :: boxR q3 (.cells #[.int .i64 x0.kind, .int .i64 x0.n, .string x0.s, .int .i64 x1.kind, .int .i64 x1.n, .string x1.s] 34) :: []) w14 := by rw [Hb11_12.out] at S; exact S
  clear Hb11_12 Kb11_12 K11_2 Cb11_12_0
  have hd : H.rowB b = false ∧ ¬ (a.kind = 3 ∧ b.kind = 3) := by
    have e := HQ.out
    unfold HeapM.inC at e
    split at e
    · cases e
    · rename_i h1
      split at e
      · cases hi : H.inL a (H.items b) <;> rw [hi] at e <;> cases e
      · rename_i h2; exact ⟨by simpa using h2, h1⟩
  by_cases hb3 : b.kind = 3
  · have HKD := Lib.hid (show b.kind = 3 ∧ ¬ a.kind = 3 from ⟨hb3, fun x => hd.2 ⟨x, hb3⟩⟩)
    clear hd hb3
    have hk0 : kb = 0 := by rw [← HKB.out]; exact H.kind_no b (by rw [HKD.out.1]; decide)
    have hkk : ¬ kb = 1 ∧ ¬ kb = 2 := by omega
    obtain ⟨hk1, hk2⟩ := hkk
    have hk1b : (kb == 1) = false := by simpa using hk1
    have hk2b : (kb == 2) = false := by simpa using hk2
    refine named (boxZ qv81 :: boxN qe82 typeError :: boxZ qv71 :: boxN qe72 typeError :: boxV qb91 b :: boxV qa81 a :: heapR h H :: refR y H :: boxR q3 (.cells #[.int .i64 x0.kind, .int .i64 x0.n, .string x0.s, .int .i64 x1.kind, .int .i64 x1.n, .string x1.s] 34) :: [] : List Res) fun b12_14 hb12_14 => ?_
    have Hb12_14 := Lib.hid hb12_14
    have Kb12_14 : Hid (∀ W (Q : List Res), Sep w (Q ++ b12_14) W → True) := Lib.hid fun W Q T => by
      rw [hb12_14] at T
      trivial
    replace S := Lib.hid S
    clear hb12_14
    go_upto_region 12 with fail
    have S1 : Sep w ([] ++ b12_14) (w14) := by rw [Hb12_14.out]; exact S.out
    clear S
    refine regionL (E := []) (base := b12_14) S1 ?_
    clear S1
    iterate 6 (refine quietL ?_; simp only [Act.put, pa]; try dsimp only [List.set])
    refine doneL (h := fun w16 S => ?_)
    replace S : Sep w (boxZ qv81 :: boxN qe82 typeError :: boxZ qv71 :: boxN qe72 typeError :: boxV qb91 b :: boxV qa81 a :: heapR h H :: refR y H :: boxR q3 (.cells #[.int .i64 x0.kind, .int .i64 x0.n, .string x0.s, .int .i64 x1.kind, .int .i64 x1.n, .string x1.s] 34) :: []) w16 := by rw [Hb12_14.out] at S; exact S
    clear Hb12_14 Kb12_14
    clear hk1 hk2 hk1b hk2b
    have hb3 : (b.kind != 3) = false := by simp [HKD.out.1]
    have ha3 : (a.kind != 3) = true := by simpa using HKD.out.2
    refine named (boxZ qv81 :: boxN qe82 typeError :: boxZ qv71 :: boxN qe72 typeError :: boxV qb91 b :: boxV qa81 a :: heapR h H :: refR y H :: boxR q3 (.cells #[.int .i64 x0.kind, .int .i64 x0.n, .string x0.s, .int .i64 x1.kind, .int .i64 x1.n, .string x1.s] 34) :: [] : List Res) fun b23_16 hb23_16 => ?_
    have Hb23_16 := Lib.hid hb23_16
    have Kb23_16 : Hid (∀ W (Q : List Res), Sep w (Q ++ b23_16) W → True) := Lib.hid fun W Q T => by
      rw [hb23_16] at T
      trivial
    have Cb23_16_0 := baseC3 (w := w) (b := qb91) hb23_16 4 rfl
    replace S := Lib.hid S
    clear hb23_16
    go_upto_region 23 with fail
    have S1 : Sep w ([] ++ b23_16) (w16) := by rw [Hb23_16.out]; exact S.out
    clear S
    refine regionL (E := []) (base := b23_16) S1 ?_
    clear S1
    refine quietL ?_
    simp only [Act.put, pa]; try dsimp only [List.set]
    refine quietLC Cb23_16_0 ?_
    simp only [Act.put, pa]; try dsimp only [List.set]
    refine quietL ?_
    simp only [Act.put, pa]; try dsimp only [List.set]
    refine doneL (h := fun w18 S => ?_)
    replace S : Sep w (boxZ qv81 :: boxN qe82 typeError :: boxZ qv71 :: boxN qe72 typeError :: boxV qb91 b :: boxV qa81 a :: heapR h H :: refR y H :: boxR q3 (.cells #[.int .i64 x0.kind, .int .i64 x0.n, .string x0.s, .int .i64 x1.kind, .int .i64 x1.n, .string x1.s] 34) :: []) w18 := by rw [Hb23_16.out] at S; exact S
    clear Hb23_16 Kb23_16 Cb23_16_0
    refine named (boxZ qv81 :: boxN qe82 typeError :: boxZ qv71 :: boxN qe72 typeError :: boxV qb91 b :: boxV qa81 a :: heapR h H :: refR y H :: boxR q3 (.cells #[.int .i64 x0.kind, .int .i64 x0.n, .string x0.s, .int .i64 x1.kind, .int .i64 x1.n, .string x1.s] 34) :: [] : List Res) fun b25_18 hb25_18 => ?_
    have Hb25_18 := Lib.hid hb25_18
    have Kb25_18 : Hid (∀ W (Q : List Res), Sep w (Q ++ b25_18) W → True) := Lib.hid fun W Q T => by
      rw [hb25_18] at T
      trivial
    have Cb25_18_0 := baseC3 (w := w) (b := qa81) hb25_18 5 rfl
    replace S := Lib.hid S
    clear hb25_18
    go_upto_region 25 with fail
    have S1 : Sep w ([] ++ b25_18) (w18) := by rw [Hb25_18.out]; exact S.out
    clear S
    refine regionL (E := []) (base := b25_18) S1 ?_
    clear S1
    refine quietL ?_
    simp only [Act.put, pa]; try dsimp only [List.set]
    refine quietLC Cb25_18_0 ?_
    simp only [Act.put, pa]; try dsimp only [List.set]
    refine quietL ?_
    simp only [Act.put, pa]; try dsimp only [List.set]
    refine doneL (h := fun w20 S => ?_)
    replace S : Sep w (boxZ qv81 :: boxN qe82 typeError :: boxZ qv71 :: boxN qe72 typeError :: boxV qb91 b :: boxV qa81 a :: heapR h H :: refR y H :: boxR q3 (.cells #[.int .i64 x0.kind, .int .i64 x0.n, .string x0.s, .int .i64 x1.kind, .int .i64 x1.n, .string x1.s] 34) :: []) w20 := by rw [Hb25_18.out] at S; exact S
    clear Hb25_18 Kb25_18 Cb25_18_0
    refine named (boxZ qv81 :: boxN qe82 typeError :: boxZ qv71 :: boxN qe72 typeError :: boxV qb91 b :: boxV qa81 a :: heapR h H :: refR y H :: boxR q3 (.cells #[.int .i64 x0.kind, .int .i64 x0.n, .string x0.s, .int .i64 x1.kind, .int .i64 x1.n, .string x1.s] 34) :: [] : List Res) fun b26_20 hb26_20 => ?_
    have Hb26_20 := Lib.hid hb26_20
    have Kb26_20 : Hid (∀ W (Q : List Res), Sep w (Q ++ b26_20) W → True) := Lib.hid fun W Q T => by
      rw [hb26_20] at T
      trivial
    have Cb26_20_0 := baseC5 (w := w) (b := qe72) hb26_20 3 rfl
    have K26_1 : KC w b26_20 21 #[excN typeError, .string typeError] (.bool true) := Lib.hid fun W Q T => by
      exact (raised_type W).mono fun e W' ⟨e1, e2⟩ => ⟨e1, T.later e2⟩
    replace S := Lib.hid S
    clear hb26_20
    go_upto_region 26 with fail
    have S1 : Sep w ([] ++ b26_20) (w20) := by rw [Hb26_20.out]; exact S.out
    clear S
    refine regionL (E := []) (base := b26_20) S1 ?_
    clear S1
    refine quietLC Cb26_20_0 ?_
    simp only [Act.put, pa]; try dsimp only [List.set]
    refine quietLK K26_1 ?_
    simp only [Act.put, pa]; try dsimp only [List.set]
    refine quietL ?_
    simp only [Act.put, pa]; try dsimp only [List.set]
    refine doneL (h := fun w22 S => ?_)
    replace S : Sep w (boxZ qv81 :: boxN qe82 typeError :: boxZ qv71 :: boxN qe72 typeError :: boxV qb91 b :: boxV qa81 a :: heapR h H :: refR y H :: boxR q3 (.cells #[.int .i64 x0.kind, .int .i64 x0.n, .string x0.s, .int .i64 x1.kind, .int .i64 x1.n, .string x1.s] 34) :: []) w22 := by rw [Hb26_20.out] at S; exact S
    clear Hb26_20 Kb26_20 K26_1 Cb26_20_0
    replace S := Lib.hid S.below
    go_wp2
    go_ret
    exact ⟨rfl, by rw [← HQ3.out]; exact S.out⟩
  · by_cases hk3 : H.kind b = 3
    · have HKD := Lib.hid (And.intro hd.1 (And.intro hb3 hk3))
      clear hd hb3 hk3
      have hkk : ¬ kb = 1 ∧ ¬ kb = 2 := by rw [← HKB.out]; have := HKD.out.1; unfold HeapM.rowB at this; simpa using this
      obtain ⟨hk1, hk2⟩ := hkk
      have hk1b : (kb == 1) = false := by simpa using hk1
      have hk2b : (kb == 2) = false := by simpa using hk2
      refine named (boxZ qv81 :: boxN qe82 typeError :: boxZ qv71 :: boxN qe72 typeError :: boxV qb91 b :: boxV qa81 a :: heapR h H :: refR y H :: boxR q3 (.cells #[.int .i64 x0.kind, .int .i64 x0.n, .string x0.s, .int .i64 x1.kind, .int .i64 x1.n, .string x1.s] 34) :: [] : List Res) fun b12_14 hb12_14 => ?_
      have Hb12_14 := Lib.hid hb12_14
      have Kb12_14 : Hid (∀ W (Q : List Res), Sep w (Q ++ b12_14) W → True) := Lib.hid fun W Q T => by
        rw [hb12_14] at T
        trivial
      replace S := Lib.hid S
      clear hb12_14
      go_upto_region 12 with fail
      have S1 : Sep w ([] ++ b12_14) (w14) := by rw [Hb12_14.out]; exact S.out
      clear S
      refine regionL (E := []) (base := b12_14) S1 ?_
      clear S1
      iterate 6 (refine quietL ?_; simp only [Act.put, pa]; try dsimp only [List.set])
      refine doneL (h := fun w16 S => ?_)
      replace S : Sep w (boxZ qv81 :: boxN qe82 typeError :: boxZ qv71 :: boxN qe72 typeError :: boxV qb91 b :: boxV qa81 a :: heapR h H :: refR y H :: boxR q3 (.cells #[.int .i64 x0.kind, .int .i64 x0.n, .string x0.s, .int .i64 x1.kind, .int .i64 x1.n, .string x1.s] 34) :: []) w16 := by rw [Hb12_14.out] at S; exact S
      clear Hb12_14 Kb12_14
      clear hk1 hk2 hk1b hk2b
      have hb3 : (b.kind != 3) = true := by simpa using HKD.out.2.1
      have hb3n : ¬ b.kind = 3 := HKD.out.2.1
      refine named (boxZ qv81 :: boxN qe82 typeError :: boxZ qv71 :: boxN qe72 typeError :: boxV qb91 b :: boxV qa81 a :: heapR h H :: refR y H :: boxR q3 (.cells #[.int .i64 x0.kind, .int .i64 x0.n, .string x0.s, .int .i64 x1.kind, .int .i64 x1.n, .string x1.s] 34) :: [] : List Res) fun b23_16 hb23_16 => ?_
      have Hb23_16 := Lib.hid hb23_16
      have Kb23_16 : Hid (∀ W (Q : List Res), Sep w (Q ++ b23_16) W → True) := Lib.hid fun W Q T => by
        rw [hb23_16] at T
        trivial
      have Cb23_16_0 := baseC3 (w := w) (b := qb91) hb23_16 4 rfl
      replace S := Lib.hid S
      clear hb23_16
      go_upto_region 23 with fail
      have S1 : Sep w ([] ++ b23_16) (w16) := by rw [Hb23_16.out]; exact S.out
      clear S
      refine regionL (E := []) (base := b23_16) S1 ?_
      clear S1
      refine quietL ?_
      simp only [Act.put, pa]; try dsimp only [List.set]
      refine quietLC Cb23_16_0 ?_
      simp only [Act.put, pa]; try dsimp only [List.set]
      refine quietL ?_
      simp only [Act.put, pa]; try dsimp only [List.set]
      refine doneL (h := fun w18 S => ?_)
      replace S : Sep w (boxZ qv81 :: boxN qe82 typeError :: boxZ qv71 :: boxN qe72 typeError :: boxV qb91 b :: boxV qa81 a :: heapR h H :: refR y H :: boxR q3 (.cells #[.int .i64 x0.kind, .int .i64 x0.n, .string x0.s, .int .i64 x1.kind, .int .i64 x1.n, .string x1.s] 34) :: []) w18 := by rw [Hb23_16.out] at S; exact S
      clear Hb23_16 Kb23_16 Cb23_16_0
      have hk3 : (kb == 3) = true := by have := HKD.out.2.2; rw [HKB.out] at this; simp [this]
      have hk3n : kb = 3 := by simpa using hk3
      refine named (boxZ qv81 :: boxN qe82 typeError :: boxZ qv71 :: boxN qe72 typeError :: boxV qb91 b :: boxV qa81 a :: heapR h H :: refR y H :: boxR q3 (.cells #[.int .i64 x0.kind, .int .i64 x0.n, .string x0.s, .int .i64 x1.kind, .int .i64 x1.n, .string x1.s] 34) :: [] : List Res) fun b24_18 hb24_18 => ?_
      have Hb24_18 := Lib.hid hb24_18
      have Kb24_18 : Hid (∀ W (Q : List Res), Sep w (Q ++ b24_18) W → True) := Lib.hid fun W Q T => by
        rw [hb24_18] at T
        trivial
      replace S := Lib.hid S
      clear hb24_18
      go_upto_region 24 with fail
      have S1 : Sep w ([] ++ b24_18) (w18) := by rw [Hb24_18.out]; exact S.out
      clear S
      refine regionL (E := []) (base := b24_18) S1 ?_
      clear S1
      iterate 3 (refine quietL ?_; simp only [Act.put, pa]; try dsimp only [List.set])
      iterate 2 (refine skipL ?_; simp only [Act.put, pa]; try dsimp only [List.set])
      iterate 2 (refine quietL ?_; simp only [Act.put, pa]; try dsimp only [List.set])
      refine doneL (h := fun w20 S => ?_)
      replace S : Sep w (boxZ qv81 :: boxN qe82 typeError :: boxZ qv71 :: boxN qe72 typeError :: boxV qb91 b :: boxV qa81 a :: heapR h H :: refR y H :: boxR q3 (.cells #[.int .i64 x0.kind, .int .i64 x0.n, .string x0.s, .int .i64 x1.kind, .int .i64 x1.n, .string x1.s] 34) :: []) w20 := by rw [Hb24_18.out] at S; exact S
      clear Hb24_18 Kb24_18
      replace S := Lib.hid S.below
      go_wp2
      go_ret
      exact ⟨rfl, by rw [← HQ3.out]; exact S.out⟩
    · have HKD := Lib.hid (And.intro hd.1 (And.intro hb3 hk3))
      clear hd hb3 hk3
      have hkk : ¬ kb = 1 ∧ ¬ kb = 2 := by rw [← HKB.out]; have := HKD.out.1; unfold HeapM.rowB at this; simpa using this
      obtain ⟨hk1, hk2⟩ := hkk
      have hk1b : (kb == 1) = false := by simpa using hk1
      have hk2b : (kb == 2) = false := by simpa using hk2
      refine named (boxZ qv81 :: boxN qe82 typeError :: boxZ qv71 :: boxN qe72 typeError :: boxV qb91 b :: boxV qa81 a :: heapR h H :: refR y H :: boxR q3 (.cells #[.int .i64 x0.kind, .int .i64 x0.n, .string x0.s, .int .i64 x1.kind, .int .i64 x1.n, .string x1.s] 34) :: [] : List Res) fun b12_14 hb12_14 => ?_
      have Hb12_14 := Lib.hid hb12_14
      have Kb12_14 : Hid (∀ W (Q : List Res), Sep w (Q ++ b12_14) W → True) := Lib.hid fun W Q T => by
        rw [hb12_14] at T
        trivial
      replace S := Lib.hid S
      clear hb12_14
      go_upto_region 12 with fail
      have S1 : Sep w ([] ++ b12_14) (w14) := by rw [Hb12_14.out]; exact S.out
      clear S
      refine regionL (E := []) (base := b12_14) S1 ?_
      clear S1
      iterate 6 (refine quietL ?_; simp only [Act.put, pa]; try dsimp only [List.set])
      refine doneL (h := fun w16 S => ?_)
      replace S : Sep w (boxZ qv81 :: boxN qe82 typeError :: boxZ qv71 :: boxN qe72 typeError :: boxV qb91 b :: boxV qa81 a :: heapR h H :: refR y H :: boxR q3 (.cells #[.int .i64 x0.kind, .int .i64 x0.n, .string x0.s, .int .i64 x1.kind, .int .i64 x1.n, .string x1.s] 34) :: []) w16 := by rw [Hb12_14.out] at S; exact S
      clear Hb12_14 Kb12_14
      clear hk1 hk2 hk1b hk2b
      have hb3 : (b.kind != 3) = true := by simpa using HKD.out.2.1
      have hb3n : ¬ b.kind = 3 := HKD.out.2.1
      refine named (boxZ qv81 :: boxN qe82 typeError :: boxZ qv71 :: boxN qe72 typeError :: boxV qb91 b :: boxV qa81 a :: heapR h H :: refR y H :: boxR q3 (.cells #[.int .i64 x0.kind, .int .i64 x0.n, .string x0.s, .int .i64 x1.kind, .int .i64 x1.n, .string x1.s] 34) :: [] : List Res) fun b23_16 hb23_16 => ?_
      have Hb23_16 := Lib.hid hb23_16
      have Kb23_16 : Hid (∀ W (Q : List Res), Sep w (Q ++ b23_16) W → True) := Lib.hid fun W Q T => by
        rw [hb23_16] at T
        trivial
      have Cb23_16_0 := baseC3 (w := w) (b := qb91) hb23_16 4 rfl
      replace S := Lib.hid S
      clear hb23_16
      go_upto_region 23 with fail
      have S1 : Sep w ([] ++ b23_16) (w16) := by rw [Hb23_16.out]; exact S.out
      clear S
      refine regionL (E := []) (base := b23_16) S1 ?_
      clear S1
      refine quietL ?_
      simp only [Act.put, pa]; try dsimp only [List.set]
      refine quietLC Cb23_16_0 ?_
      simp only [Act.put, pa]; try dsimp only [List.set]
      refine quietL ?_
      simp only [Act.put, pa]; try dsimp only [List.set]
      refine doneL (h := fun w18 S => ?_)
      replace S : Sep w (boxZ qv81 :: boxN qe82 typeError :: boxZ qv71 :: boxN qe72 typeError :: boxV qb91 b :: boxV qa81 a :: heapR h H :: refR y H :: boxR q3 (.cells #[.int .i64 x0.kind, .int .i64 x0.n, .string x0.s, .int .i64 x1.kind, .int .i64 x1.n, .string x1.s] 34) :: []) w18 := by rw [Hb23_16.out] at S; exact S
      clear Hb23_16 Kb23_16 Cb23_16_0
      have hk3 : (kb == 3) = false := by have := HKD.out.2.2; rw [HKB.out] at this; simpa using this
      have hk3n : ¬ kb = 3 := by simpa using hk3
      refine named (boxZ qv81 :: boxN qe82 typeError :: boxZ qv71 :: boxN qe72 typeError :: boxV qb91 b :: boxV qa81 a :: heapR h H :: refR y H :: boxR q3 (.cells #[.int .i64 x0.kind, .int .i64 x0.n, .string x0.s, .int .i64 x1.kind, .int .i64 x1.n, .string x1.s] 34) :: [] : List Res) fun b24_18 hb24_18 => ?_
      have Hb24_18 := Lib.hid hb24_18
      have Kb24_18 : Hid (∀ W (Q : List Res), Sep w (Q ++ b24_18) W → True) := Lib.hid fun W Q T => by
        rw [hb24_18] at T
        trivial
      have Cb24_18_0 := baseC5 (w := w) (b := qe72) hb24_18 3 rfl
      have K24_4 : KC w b24_18 21 #[excN typeError, .string typeError] (.bool true) := Lib.hid fun W Q T => by
        exact (raised_type W).mono fun e W' ⟨e1, e2⟩ => ⟨e1, T.later e2⟩
      replace S := Lib.hid S
      clear hb24_18
      go_upto_region 24 with fail
      have S1 : Sep w ([] ++ b24_18) (w18) := by rw [Hb24_18.out]; exact S.out
      clear S
      refine regionL (E := []) (base := b24_18) S1 ?_
      clear S1
      iterate 3 (refine quietL ?_; simp only [Act.put, pa]; try dsimp only [List.set])
      refine quietLC Cb24_18_0 ?_
      simp only [Act.put, pa]; try dsimp only [List.set]
      refine quietLK K24_4 ?_
      simp only [Act.put, pa]; try dsimp only [List.set]
      iterate 2 (refine quietL ?_; simp only [Act.put, pa]; try dsimp only [List.set])
      refine doneL (h := fun w20 S => ?_)
      replace S : Sep w (boxZ qv81 :: boxN qe82 typeError :: boxZ qv71 :: boxN qe72 typeError :: boxV qb91 b :: boxV qa81 a :: heapR h H :: refR y H :: boxR q3 (.cells #[.int .i64 x0.kind, .int .i64 x0.n, .string x0.s, .int .i64 x1.kind, .int .i64 x1.n, .string x1.s] 34) :: []) w20 := by rw [Hb24_18.out] at S; exact S
      clear Hb24_18 Kb24_18 K24_4 Cb24_18_0
      replace S := Lib.hid S.below
      go_wp2
      go_ret
      exact ⟨rfl, by rw [← HQ3.out]; exact S.out⟩
set_option maxRecDepth 100000 in
set_option maxHeartbeats 12800000 in
theorem walk_d (w : World) (sl : Value) (l : List ObjI) (hs : SeesO w sl l) (x0 x1 : V) (m : Int) (hm : w.cell? ⟨0, 0, none⟩ = some (.int .i64 m)) (hq : (madeO l).inC (plainV x0) (plainV x1) = .deep) :
    Calls Tryz.prog 8 #[sl, .agg #[.int .i64 x0.kind, .int .i64 x0.n, .string x0.s, .int .i64 x1.kind, .int .i64 x1.n, .string x1.s]] w fun e W' => e = .returned (.bool true) ∧ Below w.heap.size w W' := by
  obtain ⟨a, ha⟩ : ∃ a, a = plainV x0 := ⟨_, rfl⟩
  obtain ⟨b, hb⟩ : ∃ b, b = plainV x1 := ⟨_, rfl⟩
  obtain ⟨H, hH⟩ : ∃ H, H = madeO l := ⟨_, rfl⟩
  rw [← ha, ← hb, ← hH] at hq
  have HF : Hid (H.Fit 200) := Lib.hid (by rw [hH]; exact madeO_fit hs.2)
  have HSZ : Hid (b.s.size < 4294967281) := Lib.hid (by rw [hb]; have := plain_size x1; omega)
  have Ha_ := Lib.hid ha
  have Hb_ := Lib.hid hb
  have HH_ := Lib.hid hH
  have HQ := Lib.hid hq
  have HM := Lib.hid hm
  have HS := Lib.hid hs
  have S := Sep.start (Below.refl w.heap.size w)
  obtain ⟨q3, hq3⟩ : ∃ gx_, (w.heap.size) = gx_ := ⟨_, rfl⟩
  replace S := S.alloc (.cells #[.int .i64 x0.kind, .int .i64 x0.n, .string x0.s, .int .i64 x1.kind, .int .i64 x1.n, .string x1.s] 34)
  rw [hq3] at S ⊢
  have M0 := Lib.hid (shown_ok S)
  clear S ha hb hH hq hm hs
  go_enter Tryz.func8, Tryz.ntmps8
  go_upto_region 1 with fail
  try simp only [hq3]
  have HQ3 := Lib.hid hq3
  clear hq3
  go_wp2_with fail
  refine M0.out.mono ?_
  rintro e w1 ⟨rfl, S⟩
  clear M0
  have M := Lib.hid (made16_ok S sl l HS.out)
  clear S
  go_wp2_with fail
  refine M.out.mono ?_
  rintro e w2 ⟨h, y, rfl, S⟩
  clear M
  rw [← HH_.out] at S
  replace S : Sep w (heapR h H :: refR y H :: boxR q3 (.cells #[.int .i64 x0.kind, .int .i64 x0.n, .string x0.s, .int .i64 x1.kind, .int .i64 x1.n, .string x1.s] 34) :: []) _ := S
  refine named (heapR h H :: refR y H :: boxR q3 (.cells #[.int .i64 x0.kind, .int .i64 x0.n, .string x0.s, .int .i64 x1.kind, .int .i64 x1.n, .string x1.s] 34) :: [] : List Res) fun b5_2 hb5_2 => ?_
  have Hb5_2 := Lib.hid hb5_2
  have Kb5_2 : Hid (∀ W (Q : List Res), Sep w (Q ++ b5_2) W → True) := Lib.hid fun W Q T => by
    rw [hb5_2] at T
    trivial
  have Cb5_2_0 : Hid (∀ W (Q : List Res), Sep w (Q ++ b5_2) W → W.cell? ⟨q3, 0, none⟩ = some (.int .i64 x0.kind) ∧ W.cell? ⟨q3, 1, none⟩ = some (.int .i64 x0.n) ∧ W.cell? ⟨q3, 2, none⟩ = some (.string x0.s) ∧ W.cell? ⟨q3, 3, none⟩ = some (.int .i64 x1.kind) ∧ W.cell? ⟨q3, 4, none⟩ = some (.int .i64 x1.n) ∧ W.cell? ⟨q3, 5, none⟩ = some (.string x1.s)) := Lib.hid fun W Q T => by
    rw [hb5_2] at T
    have i0 := T.box (b := q3) (o := .cells #[.int .i64 x0.kind, .int .i64 x0.n, .string x0.s, .int .i64 x1.kind, .int .i64 x1.n, .string x1.s] 34) (Q.length + 2) (atR rfl)
    exact ⟨cellAt i0 0 rfl, cellAt i0 1 rfl, cellAt i0 2 rfl, cellAt i0 3 rfl, cellAt i0 4 rfl, cellAt i0 5 rfl⟩
  have K5_2 : KC w b5_2 28 #[agV x0] (.agg #[.int .i64 a.kind, .int .i64 a.n, .string a.s]) := Lib.hid fun W Q T => by
    rw [Hb5_2.out] at T ⊢
    exact (by have hh := lplain_ok T x0; rw [← Ha_.out] at hh; exact hh)
  replace S := Lib.hid S
  clear hb5_2
  go_upto_region 5 with fail
  have S1 : Sep w ([] ++ b5_2) (w2) := by rw [Hb5_2.out]; exact S.out
  clear S
  refine regionL (E := [emptyR]) (base := b5_2) (Sep.putE S1) ?_
  clear S1
  refine quietL ?_
  simp only [Act.put, pa]; try dsimp only [List.set]
  refine quietL (hy := fun E Wx hSw => by ((obtain ⟨u0, u1, u2, u3, u4, u5⟩ := Cb5_2_0.out _ _ hSw); go_simp; exact ⟨rfl, hSw⟩)) (h := ?_)
  simp only [Act.put, pa]; try dsimp only [List.set]
  refine quietLK K5_2 ?_
  simp only [Act.put, pa]; try dsimp only [List.set]
  refine allocL 0 rfl (fun q => .pointer (some ⟨q, 0, none⟩)) (.cells #[.int .i64 0, .int .i64 0, .string ⟨#[]⟩] 29) (h1 := fun Wx => by go_simp) (h2 := fun qa81 => ?_)
  simp only [Act.put, pa]; try dsimp only [List.set]
  try simp only [List.set_cons_zero, List.set_cons_succ]
  refine detL undef [boxV qa81 a] (h1 := fun Wx hSw => by (have hz := hSw.box (b := qa81) (o := objZ) 0 rfl; refine useZ3 hz fun z0 z1 z2 y0 y1 y2 => ?_; go_simp; exact ⟨rfl, hSw.set3 0 rfl (.int .i64 a.kind) (.int .i64 a.n) (.string a.s)⟩)) (h2 := ?_)
  simp only [Act.put, pa]; try dsimp only [List.set]
  refine doneL (h := fun w4 S => ?_)
  replace S : Sep w (boxV qa81 a :: heapR h H :: refR y H :: boxR q3 (.cells #[.int .i64 x0.kind, .int .i64 x0.n, .string x0.s, .int .i64 x1.kind, .int .i64 x1.n, .string x1.s] 34) :: []) w4 := by rw [Hb5_2.out] at S; exact S
  clear Hb5_2 Kb5_2 K5_2 Cb5_2_0
  refine named (boxV qa81 a :: heapR h H :: refR y H :: boxR q3 (.cells #[.int .i64 x0.kind, .int .i64 x0.n, .string x0.s, .int .i64 x1.kind, .int .i64 x1.n, .string x1.s] 34) :: [] : List Res) fun b6_4 hb6_4 => ?_
  have Hb6_4 := Lib.hid hb6_4
  have Kb6_4 : Hid (∀ W (Q : List Res), Sep w (Q ++ b6_4) W → True) := Lib.hid fun W Q T => by
    rw [hb6_4] at T
    trivial
  have Cb6_4_0 : Hid (∀ W (Q : List Res), Sep w (Q ++ b6_4) W → W.cell? ⟨q3, 0, none⟩ = some (.int .i64 x0.kind) ∧ W.cell? ⟨q3, 1, none⟩ = some (.int .i64 x0.n) ∧ W.cell? ⟨q3, 2, none⟩ = some (.string x0.s) ∧ W.cell? ⟨q3, 3, none⟩ = some (.int .i64 x1.kind) ∧ W.cell? ⟨q3, 4, none⟩ = some (.int .i64 x1.n) ∧ W.cell? ⟨q3, 5, none⟩ = some (.string x1.s)) := Lib.hid fun W Q T => by
    rw [hb6_4] at T
    have i0 := T.box (b := q3) (o := .cells #[.int .i64 x0.kind, .int .i64 x0.n, .string x0.s, .int .i64 x1.kind, .int .i64 x1.n, .string x1.s] 34) (Q.length + 3) (atR rfl)
    exact ⟨cellAt i0 0 rfl, cellAt i0 1 rfl, cellAt i0 2 rfl, cellAt i0 3 rfl, cellAt i0 4 rfl, cellAt i0 5 rfl⟩
  have K6_2 : KC w b6_4 28 #[agV x1] (.agg #[.int .i64 b.kind, .int .i64 b.n, .string b.s]) := Lib.hid fun W Q T => by
    rw [Hb6_4.out] at T ⊢
    exact (by have hh := lplain_ok T x1; rw [← Hb_.out] at hh; exact hh)
  replace S := Lib.hid S
  clear hb6_4
  go_upto_region 6 with fail
  have S1 : Sep w ([] ++ b6_4) (w4) := by rw [Hb6_4.out]; exact S.out
  clear S
  refine regionL (E := [emptyR]) (base := b6_4) (Sep.putE S1) ?_
  clear S1
  refine quietL ?_
  simp only [Act.put, pa]; try dsimp only [List.set]
  refine quietL (hy := fun E Wx hSw => by ((obtain ⟨u0, u1, u2, u3, u4, u5⟩ := Cb6_4_0.out _ _ hSw); go_simp; exact ⟨rfl, hSw⟩)) (h := ?_)
  simp only [Act.put, pa]; try dsimp only [List.set]
  refine quietLK K6_2 ?_
  simp only [Act.put, pa]; try dsimp only [List.set]
  refine allocL 0 rfl (fun q => .pointer (some ⟨q, 0, none⟩)) (.cells #[.int .i64 0, .int .i64 0, .string ⟨#[]⟩] 29) (h1 := fun Wx => by go_simp) (h2 := fun qb91 => ?_)
  simp only [Act.put, pa]; try dsimp only [List.set]
  try simp only [List.set_cons_zero, List.set_cons_succ]
  refine detL undef [boxV qb91 b] (h1 := fun Wx hSw => by (have hz := hSw.box (b := qb91) (o := objZ) 0 rfl; refine useZ3 hz fun z0 z1 z2 y0 y1 y2 => ?_; go_simp; exact ⟨rfl, hSw.set3 0 rfl (.int .i64 b.kind) (.int .i64 b.n) (.string b.s)⟩)) (h2 := ?_)
  simp only [Act.put, pa]; try dsimp only [List.set]
  refine doneL (h := fun w6 S => ?_)
  replace S : Sep w (boxV qb91 b :: boxV qa81 a :: heapR h H :: refR y H :: boxR q3 (.cells #[.int .i64 x0.kind, .int .i64 x0.n, .string x0.s, .int .i64 x1.kind, .int .i64 x1.n, .string x1.s] 34) :: []) w6 := by rw [Hb6_4.out] at S; exact S
  clear Hb6_4 Kb6_4 K6_2 Cb6_4_0
  refine named (boxV qb91 b :: boxV qa81 a :: heapR h H :: refR y H :: boxR q3 (.cells #[.int .i64 x0.kind, .int .i64 x0.n, .string x0.s, .int .i64 x1.kind, .int .i64 x1.n, .string x1.s] 34) :: [] : List Res) fun b7_6 hb7_6 => ?_
  have Hb7_6 := Lib.hid hb7_6
  have Kb7_6 : Hid (∀ W (Q : List Res), Sep w (Q ++ b7_6) W → True) := Lib.hid fun W Q T => by
    rw [hb7_6] at T
    trivial
  have Cb7_6_0 := baseC3 (w := w) (b := qa81) hb7_6 1 rfl
  have Cb7_6_1 := baseC3 (w := w) (b := qb91) hb7_6 0 rfl
  have K7_3 : KC w b7_6 18 #[hpV h, .string ⟨#[105, 110]⟩, agV a, agV b] (.tuple #[zeroV, excN recursionError]) := Lib.hid fun W Q T => by
    rw [Hb7_6.out] at T ⊢
    exact (by have hh := cmp_isin HF.out.G (by decide) a b HSZ.out m HM.out T (Q.length + 2) (atR rfl); rw [HQ.out] at hh; exact hh)
  replace S := Lib.hid S
  clear hb7_6
  go_upto_region 7 with fail
  have S1 : Sep w ([] ++ b7_6) (w6) := by rw [Hb7_6.out]; exact S.out
  clear S
  refine regionL (E := [emptyR, emptyR]) (base := b7_6) (Sep.putE (Sep.putE S1)) ?_
  clear S1
  refine quietL ?_
  simp only [Act.put, pa]; try dsimp only [List.set]
  refine quietLC Cb7_6_0 ?_
  simp only [Act.put, pa]; try dsimp only [List.set]
  refine quietLC Cb7_6_1 ?_
  simp only [Act.put, pa]; try dsimp only [List.set]
  refine quietLK K7_3 ?_
  simp only [Act.put, pa]; try dsimp only [List.set]
  iterate 3 (refine quietL ?_; simp only [Act.put, pa]; try dsimp only [List.set])
  refine allocL 0 rfl (fun q => .pointer (some ⟨q, 0, none⟩)) (.cells #[.int .i64 0, .int .i64 0, .string ⟨#[]⟩] 29) (h1 := fun Wx => by go_simp) (h2 := fun qv71 => ?_)
  simp only [Act.put, pa]; try dsimp only [List.set]
  try simp only [List.set_cons_zero, List.set_cons_succ]
  refine allocL 1 rfl (fun q => .pointer (some ⟨q, 0, none⟩)) (.cells #[.string ⟨#[]⟩, .int .i64 0, .int .i64 0, .string ⟨#[]⟩, .bool false] 38) (h1 := fun Wx => by go_simp) (h2 := fun qe72 => ?_)
  simp only [Act.put, pa]; try dsimp only [List.set]
  try simp only [List.set_cons_zero, List.set_cons_succ]
  refine detL undef [boxZ qv71, boxE qe72] (h1 := fun Wx hSw => by (have hz := hSw.box (b := qv71) (o := objZ) 0 rfl; refine useZ3 hz fun z0 z1 z2 y0 y1 y2 => ?_; go_simp; exact ⟨rfl, hSw.set3 0 rfl (.int .i64 0) (.int .i64 0) (.string ⟨#[]⟩)⟩)) (h2 := ?_)
  simp only [Act.put, pa]; try dsimp only [List.set]
  refine detL undef [boxZ qv71, boxN qe72 recursionError] (h1 := fun Wx hSw => by (have hz := hSw.box (b := qe72) (o := objE) 1 rfl; refine useZ5 hz fun z0 z1 z2 z3 z4 y0 y1 y2 y3 y4 => ?_; go_simp; exact ⟨rfl, hSw.set5 1 rfl (.string recursionError) (.int .i64 0) (.int .i64 0) (.string ⟨#[]⟩) (.bool false)⟩)) (h2 := ?_)
  simp only [Act.put, pa]; try dsimp only [List.set]
  refine doneL (h := fun w8 S => ?_)
  replace S : Sep w (boxZ qv71 :: boxN qe72 recursionError :: boxV qb91 b :: boxV qa81 a :: heapR h H :: refR y H :: boxR q3 (.cells #[.int .i64 x0.kind, .int .i64 x0.n, .string x0.s, .int .i64 x1.kind, .int .i64 x1.n, .string x1.s] 34) :: []) w8 := by rw [Hb7_6.out] at S; exact S
  clear Hb7_6 Kb7_6 K7_3 Cb7_6_0 Cb7_6_1
  refine named (boxZ qv71 :: boxN qe72 recursionError :: boxV qb91 b :: boxV qa81 a :: heapR h H :: refR y H :: boxR q3 (.cells #[.int .i64 x0.kind, .int .i64 x0.n, .string x0.s, .int .i64 x1.kind, .int .i64 x1.n, .string x1.s] 34) :: [] : List Res) fun b8_8 hb8_8 => ?_
  have Hb8_8 := Lib.hid hb8_8
  have Kb8_8 : Hid (∀ W (Q : List Res), Sep w (Q ++ b8_8) W → True) := Lib.hid fun W Q T => by
    rw [hb8_8] at T
    trivial
  have Cb8_8_0 := baseC3 (w := w) (b := qa81) hb8_8 3 rfl
  have Cb8_8_1 := baseC3 (w := w) (b := qb91) hb8_8 2 rfl
  have K8_3 : KC w b8_8 18 #[hpV h, .string ⟨#[110, 111, 116, 32, 105, 110]⟩, agV a, agV b] (.tuple #[zeroV, excN recursionError]) := Lib.hid fun W Q T => by
    rw [Hb8_8.out] at T ⊢
    exact (by have hh := cmp_notin HF.out.G (by decide) a b HSZ.out m HM.out T (Q.length + 4) (atR rfl); rw [HQ.out] at hh; exact hh)
  replace S := Lib.hid S
  clear hb8_8
  go_upto_region 8 with fail
  have S1 : Sep w ([] ++ b8_8) (w8) := by rw [Hb8_8.out]; exact S.out
  clear S
  refine regionL (E := [emptyR, emptyR]) (base := b8_8) (Sep.putE (Sep.putE S1)) ?_
  clear S1
  refine quietL ?_
  simp only [Act.put, pa]; try dsimp only [List.set]
  refine quietLC Cb8_8_0 ?_
  simp only [Act.put, pa]; try dsimp only [List.set]
  refine quietLC Cb8_8_1 ?_
  simp only [Act.put, pa]; try dsimp only [List.set]
  refine quietLK K8_3 ?_
  simp only [Act.put, pa]; try dsimp only [List.set]
  iterate 3 (refine quietL ?_; simp only [Act.put, pa]; try dsimp only [List.set])
  refine allocL 0 rfl (fun q => .pointer (some ⟨q, 0, none⟩)) (.cells #[.int .i64 0, .int .i64 0, .string ⟨#[]⟩] 29) (h1 := fun Wx => by go_simp) (h2 := fun qv81 => ?_)
  simp only [Act.put, pa]; try dsimp only [List.set]
  try simp only [List.set_cons_zero, List.set_cons_succ]
  refine allocL 1 rfl (fun q => .pointer (some ⟨q, 0, none⟩)) (.cells #[.string ⟨#[]⟩, .int .i64 0, .int .i64 0, .string ⟨#[]⟩, .bool false] 38) (h1 := fun Wx => by go_simp) (h2 := fun qe82 => ?_)
  simp only [Act.put, pa]; try dsimp only [List.set]
  try simp only [List.set_cons_zero, List.set_cons_succ]
  refine detL undef [boxZ qv81, boxE qe82] (h1 := fun Wx hSw => by (have hz := hSw.box (b := qv81) (o := objZ) 0 rfl; refine useZ3 hz fun z0 z1 z2 y0 y1 y2 => ?_; go_simp; exact ⟨rfl, hSw.set3 0 rfl (.int .i64 0) (.int .i64 0) (.string ⟨#[]⟩)⟩)) (h2 := ?_)
  simp only [Act.put, pa]; try dsimp only [List.set]
  refine detL undef [boxZ qv81, boxN qe82 recursionError] (h1 := fun Wx hSw => by (have hz := hSw.box (b := qe82) (o := objE) 1 rfl; refine useZ5 hz fun z0 z1 z2 z3 z4 y0 y1 y2 y3 y4 => ?_; go_simp; exact ⟨rfl, hSw.set5 1 rfl (.string recursionError) (.int .i64 0) (.int .i64 0) (.string ⟨#[]⟩) (.bool false)⟩)) (h2 := ?_)
  simp only [Act.put, pa]; try dsimp only [List.set]
  refine doneL (h := fun w10 S => ?_)
  replace S : Sep w (boxZ qv81 :: boxN qe82 recursionError :: boxZ qv71 :: boxN qe72 recursionError :: boxV qb91 b :: boxV qa81 a :: heapR h H :: refR y H :: boxR q3 (.cells #[.int .i64 x0.kind, .int .i64 x0.n, .string x0.s, .int .i64 x1.kind, .int .i64 x1.n, .string x1.s] 34) :: []) w10 := by rw [Hb8_8.out] at S; exact S
  clear Hb8_8 Kb8_8 K8_3 Cb8_8_0 Cb8_8_1
  refine named (boxZ qv81 :: boxN qe82 recursionError :: boxZ qv71 :: boxN qe72 recursionError :: boxV qb91 b :: boxV qa81 a :: heapR h H :: refR y H :: boxR q3 (.cells #[.int .i64 x0.kind, .int .i64 x0.n, .string x0.s, .int .i64 x1.kind, .int .i64 x1.n, .string x1.s] 34) :: [] : List Res) fun b9_10 hb9_10 => ?_
  have Hb9_10 := Lib.hid hb9_10
  have Kb9_10 : Hid (∀ W (Q : List Res), Sep w (Q ++ b9_10) W → True) := Lib.hid fun W Q T => by
    rw [hb9_10] at T
    trivial
  have Cb9_10_0 := baseC5 (w := w) (b := qe72) hb9_10 3 rfl
  have Cb9_10_1 := baseC5 (w := w) (b := qe82) hb9_10 1 rfl
  have K9_5 : KC w b9_10 19 #[excN recursionError] (.bool false) := Lib.hid fun W Q T => by
    exact (none_deep W).mono fun e W' ⟨e1, e2⟩ => ⟨e1, T.later e2⟩
  replace S := Lib.hid S
  clear hb9_10
  go_upto_region 9 with fail
  have S1 : Sep w ([] ++ b9_10) (w10) := by rw [Hb9_10.out]; exact S.out
  clear S
  refine regionL (E := []) (base := b9_10) S1 ?_
  clear S1
  refine quietLC Cb9_10_0 ?_
  simp only [Act.put, pa]; try dsimp only [List.set]
  refine quietLC Cb9_10_1 ?_
  simp only [Act.put, pa]; try dsimp only [List.set]
  iterate 2 (refine quietL ?_; simp only [Act.put, pa]; try dsimp only [List.set])
  refine quietLC Cb9_10_0 ?_
  simp only [Act.put, pa]; try dsimp only [List.set]
  refine quietLK K9_5 ?_
  simp only [Act.put, pa]; try dsimp only [List.set]
  refine quietL ?_
  simp only [Act.put, pa]; try dsimp only [List.set]
  iterate 13 (refine skipL ?_; simp only [Act.put, pa]; try dsimp only [List.set])
  iterate 2 (refine quietL ?_; simp only [Act.put, pa]; try dsimp only [List.set])
  refine doneL (h := fun w12 S => ?_)
  replace S : Sep w (boxZ qv81 :: boxN qe82 recursionError :: boxZ qv71 :: boxN qe72 recursionError :: boxV qb91 b :: boxV qa81 a :: heapR h H :: refR y H :: boxR q3 (.cells #[.int .i64 x0.kind, .int .i64 x0.n, .string x0.s, .int .i64 x1.kind, .int .i64 x1.n, .string x1.s] 34) :: []) w12 := by rw [Hb9_10.out] at S; exact S
  clear Hb9_10 Kb9_10 K9_5 Cb9_10_0 Cb9_10_1
  obtain ⟨kb, hkb⟩ : ∃ k, H.kind b = k := ⟨_, rfl⟩
  have HKB := Lib.hid hkb
  clear hkb
  refine named (boxZ qv81 :: boxN qe82 recursionError :: boxZ qv71 :: boxN qe72 recursionError :: boxV qb91 b :: boxV qa81 a :: heapR h H :: refR y H :: boxR q3 (.cells #[.int .i64 x0.kind, .int .i64 x0.n, .string x0.s, .int .i64 x1.kind, .int .i64 x1.n, .string x1.s] 34) :: [] : List Res) fun b11_12 hb11_12 => ?_
  have Hb11_12 := Lib.hid hb11_12
  have Kb11_12 : Hid (∀ W (Q : List Res), Sep w (Q ++ b11_12) W → True) := Lib.hid fun W Q T => by
    rw [hb11_12] at T
    trivial
  have Cb11_12_0 := baseC3 (w := w) (b := qb91) hb11_12 4 rfl
  have K11_2 : KC w b11_12 30 #[hpV h, agV b] (.int .i64 kb) := Lib.hid fun W Q T => by
    rw [Hb11_12.out] at T ⊢
    exact kind_at T (Q.length + 6) (atR rfl) b kb HKB.out
  replace S := Lib.hid S
  clear hb11_12
  go_upto_region 11 with fail
  have S1 : Sep w ([] ++ b11_12) (w12) := by rw [Hb11_12.out]; exact S.out
  clear S
  refine regionL (E := []) (base := b11_12) S1 ?_
  clear S1
  refine quietL ?_
  simp only [Act.put, pa]; try dsimp only [List.set]
  refine quietLC Cb11_12_0 ?_
  simp only [Act.put, pa]; try dsimp only [List.set]
  refine quietLK K11_2 ?_
  simp only [Act.put, pa]; try dsimp only [List.set]
  refine quietL ?_
  simp only [Act.put, pa]; try dsimp only [List.set]
  refine doneL (h := fun w14 S => ?_)
  replace S : Sep w (boxZ qv81 :: boxN qe82 recursionError :: boxZ qv71 :: boxN qe72 recursionError :: boxV qb91 b :: boxV qa81 a :: heapR h H :: refR y H :: boxR q3 (.cells #[.int .i64 x0.kind, .int .i64 x0.n, .string x0.s, .int .i64 x1.kind, .int .i64 x1.n, .string x1.s] 34) :: []) w14 := by rw [Hb11_12.out] at S; exact S
  clear Hb11_12 Kb11_12 K11_2 Cb11_12_0
  have hd : H.rowB b = true := by
    have e := HQ.out
    unfold HeapM.inC at e
    split at e
    · cases e
    · split at e
      · assumption
      · split at e <;> cases e
  have HKD := Lib.hid hd
  clear hd
  have hkk : kb = 1 ∨ kb = 2 := by rw [← HKB.out]; exact HeapM.rowB_kind HKD.out
  go_upto_region 12 with fail
  go_cut [83] (fun s83 wx => s83 = .bool true ∧ Sep w (boxZ qv81 :: boxN qe82 recursionError :: boxZ qv71 :: boxN qe72 recursionError :: boxV qb91 b :: boxV qa81 a :: heapR h H :: refR y H :: boxR q3 (.cells #[.int .i64 x0.kind, .int .i64 x0.n, .string x0.s, .int .i64 x1.kind, .int .i64 x1.n, .string x1.s] 34) :: []) wx)
  case first =>
    rcases hkk with hkk | hkk
    ·
      subst hkk
      refine named (boxZ qv81 :: boxN qe82 recursionError :: boxZ qv71 :: boxN qe72 recursionError :: boxV qb91 b :: boxV qa81 a :: heapR h H :: refR y H :: boxR q3 (.cells #[.int .i64 x0.kind, .int .i64 x0.n, .string x0.s, .int .i64 x1.kind, .int .i64 x1.n, .string x1.s] 34) :: [] : List Res) fun b12_50 hb12_50 => ?_
      have Hb12_50 := Lib.hid hb12_50
      have Kb12_50 : Hid (∀ W (Q : List Res), Sep w (Q ++ b12_50) W → True) := Lib.hid fun W Q T => by
        rw [hb12_50] at T
        trivial
      replace S := Lib.hid S
      clear hb12_50
      have S1 : Sep w ([] ++ b12_50) (w14) := by rw [Hb12_50.out]; exact S.out
      clear S
      refine regionL (E := []) (base := b12_50) S1 ?_
      clear S1
      iterate 3 (refine quietL ?_; simp only [Act.put, pa]; try dsimp only [List.set])
      iterate 2 (refine skipL ?_; simp only [Act.put, pa]; try dsimp only [List.set])
      refine quietL ?_
      simp only [Act.put, pa]; try dsimp only [List.set]
      refine doneL (h := fun w52 S => ?_)
      replace S : Sep w (boxZ qv81 :: boxN qe82 recursionError :: boxZ qv71 :: boxN qe72 recursionError :: boxV qb91 b :: boxV qa81 a :: heapR h H :: refR y H :: boxR q3 (.cells #[.int .i64 x0.kind, .int .i64 x0.n, .string x0.s, .int .i64 x1.kind, .int .i64 x1.n, .string x1.s] 34) :: []) w52 := by rw [Hb12_50.out] at S; exact S
      clear Hb12_50 Kb12_50
      replace S := Lib.hid S
      go_wp2_with fail
      go_meet
      exact ⟨rfl, S.out⟩
    ·
      subst hkk
      refine named (boxZ qv81 :: boxN qe82 recursionError :: boxZ qv71 :: boxN qe72 recursionError :: boxV qb91 b :: boxV qa81 a :: heapR h H :: refR y H :: boxR q3 (.cells #[.int .i64 x0.kind, .int .i64 x0.n, .string x0.s, .int .i64 x1.kind, .int .i64 x1.n, .string x1.s] 34) :: [] : List Res) fun b12_60 hb12_60 => ?_
      have Hb12_60 := Lib.hid hb12_60
      have Kb12_60 : Hid (∀ W (Q : List Res), Sep w (Q ++ b12_60) W → True) := Lib.hid fun W Q T => by
        rw [hb12_60] at T
        trivial
      replace S := Lib.hid S
      clear hb12_60
      have S1 : Sep w ([] ++ b12_60) (w14) := by rw [Hb12_60.out]; exact S.out
      clear S
      refine regionL (E := []) (base := b12_60) S1 ?_
      clear S1
      iterate 6 (refine quietL ?_; simp only [Act.put, pa]; try dsimp only [List.set])
      refine doneL (h := fun w62 S => ?_)
      replace S : Sep w (boxZ qv81 :: boxN qe82 recursionError :: boxZ qv71 :: boxN qe72 recursionError :: boxV qb91 b :: boxV qa81 a :: heapR h H :: refR y H :: boxR q3 (.cells #[.int .i64 x0.kind, .int .i64 x0.n, .string x0.s, .int .i64 x1.kind, .int .i64 x1.n, .string x1.s] 34) :: []) w62 := by rw [Hb12_60.out] at S; exact S
      clear Hb12_60 Kb12_60
      replace S := Lib.hid S
      go_wp2_with fail
      go_meet
      exact ⟨rfl, S.out⟩
  case rest =>
    obtain ⟨rfl, S⟩ := hcut
    clear hkk
    obtain ⟨I1, hI1⟩ : ∃ l, l = H.items b := ⟨_, rfl⟩
    have HI1 := Lib.hid hI1
    have HIL : Hid (I1.length ≤ 200) := Lib.hid (by rw [hI1]; exact HF.out.G.items b)
    have HIN : Hid (sameC (H.inL a I1) = .deep) := Lib.hid (by
      have hb4 := H.kind_ref b (by have := HeapM.rowB_kind HKD.out; omega)
      have e := HQ.out
      unfold HeapM.inC at e
      rw [if_neg (by omega), if_pos HKD.out, ← hI1] at e
      exact e)
    clear hI1
    refine named (boxZ qv81 :: boxN qe82 recursionError :: boxZ qv71 :: boxN qe72 recursionError :: boxV qb91 b :: boxV qa81 a :: heapR h H :: refR y H :: boxR q3 (.cells #[.int .i64 x0.kind, .int .i64 x0.n, .string x0.s, .int .i64 x1.kind, .int .i64 x1.n, .string x1.s] 34) :: [] : List Res) fun b13_70 hb13_70 => ?_
    have Hb13_70 := Lib.hid hb13_70
    have Kb13_70 : Hid (∀ W (Q : List Res), Sep w (Q ++ b13_70) W → True) := Lib.hid fun W Q T => by
      rw [hb13_70] at T
      trivial
    have Cb13_70_0 := baseC3 (w := w) (b := qb91) hb13_70 4 rfl
    have KI13_2 : Hid (∀ W (Q : List Res), Sep w (Q ++ b13_70) W → Calls Tryz.prog 31 #[.pointer (some ⟨h, 0, none⟩), .agg #[.int .i64 b.kind, .int .i64 b.n, .string b.s]] W fun e W' => ∃ a c, e = .returned (.slice a I1.length c) ∧ Sep w (valsR (.slice a I1.length c) I1 :: (Q ++ b13_70)) W') := Lib.hid fun W Q T => by
      rw [Hb13_70.out] at T ⊢
      exact items_at T (Q.length + 6) (atR rfl) HF.out.G (by decide) b I1 HI1.out.symm
    replace S := Lib.hid S
    clear hb13_70
    go_upto_region 13 with fail
    have S1 : Sep w ([] ++ b13_70) (wc) := by rw [Hb13_70.out]; exact S.out
    clear S
    refine regionL (E := [emptyR]) (base := b13_70) (Sep.putE S1) ?_
    clear S1
    refine quietL ?_
    simp only [Act.put, pa]; try dsimp only [List.set]
    refine quietLC Cb13_70_0 ?_
    simp only [Act.put, pa]; try dsimp only [List.set]
    refine stepL (fun v E1 => ∃ (va_72_1 : Option Addr) (vc_72_1 : Nat), v = .slice va_72_1 I1.length vc_72_1 ∧ E1 = [valsR (.slice va_72_1 I1.length vc_72_1) I1]) (h1 := fun Wx hSw => by (go_simp; refine symCallN ?_; exact (KI13_2.out _ _ hSw).mono fun e W' ⟨a, c, e1, e2⟩ => ⟨_, _, e1, ⟨a, c, rfl, rfl⟩, e2.into 0 rfl⟩)) (h2 := fun v E1 hvE => ?_)
    obtain ⟨va_72_1, vc_72_1, rfl, rfl⟩ := hvE
    simp only [Act.put, pa]; try dsimp only [List.set]
    refine quietL ?_
    simp only [Act.put, pa]; try dsimp only [List.set]
    refine doneL (h := fun w72 S => ?_)
    replace S : Sep w (valsR (.slice va_72_1 I1.length vc_72_1) I1 :: boxZ qv81 :: boxN qe82 recursionError :: boxZ qv71 :: boxN qe72 recursionError :: boxV qb91 b :: boxV qa81 a :: heapR h H :: refR y H :: boxR q3 (.cells #[.int .i64 x0.kind, .int .i64 x0.n, .string x0.s, .int .i64 x1.kind, .int .i64 x1.n, .string x1.s] 34) :: []) w72 := by rw [Hb13_70.out] at S; exact S
    clear Hb13_70 Kb13_70 KI13_2 Cb13_70_0
    replace S := Lib.hid S
    go_wp2
    go_loopw [16] (fun s16 wr => ∃ k : Nat, k ≤ I1.length ∧ s16 = .int .i64 k ∧ Hid (∀ z ∈ I1.take k, H.sameF 30 z a = some false) ∧ Sep w (valsR (.slice va_72_1 I1.length vc_72_1) I1 :: boxZ qv81 :: boxN qe82 recursionError :: boxZ qv71 :: boxN qe72 recursionError :: boxV qb91 b :: boxV qa81 a :: heapR h H :: refR y H :: boxR q3 (.cells #[.int .i64 x0.kind, .int .i64 x0.n, .string x0.s, .int .i64 x1.kind, .int .i64 x1.n, .string x1.s] 34) :: []) wr) (fun s16 _ => I1.length - (intOf s16).toNat)
    case atStart => exact ⟨0, Nat.zero_le _, rfl, Lib.hid (by simp), S.out⟩
    case round =>
      obtain ⟨k, hk, rfl, HA, S⟩ := hrel
      by_cases hlt : k < I1.length
      ·
        have hlti : (k : Int) < I1.length := by omega
        obtain ⟨z, hz⟩ : ∃ z, I1[k]? = some z := ⟨I1[k], by simp [hlt]⟩
        obtain ⟨g, og, hag⟩ := (S.seesV 0 rfl).some_at (show 0 < I1.length by omega)
        subst hag
        have HZ := Lib.hid hz
        have HLT := Lib.hid hlt
        clear hz hk hlt
        obtain ⟨r, hr⟩ : ∃ r, r = H.sameF 30 z a := ⟨_, rfl⟩
        have HS2 := Lib.hid hr
        clear hr
        match r, HS2 with
        | some false, HS2 =>
          replace S : Sep w (valsR (.slice (some ⟨g, og, none⟩) I1.length vc_72_1) I1 :: boxZ qv81 :: boxN qe82 recursionError :: boxZ qv71 :: boxN qe72 recursionError :: boxV qb91 b :: boxV qa81 a :: heapR h H :: refR y H :: boxR q3 (.cells #[.int .i64 x0.kind, .int .i64 x0.n, .string x0.s, .int .i64 x1.kind, .int .i64 x1.n, .string x1.s] 34) :: []) wr := S
          refine named (valsR (.slice (some ⟨g, og, none⟩) I1.length vc_72_1) I1 :: boxZ qv81 :: boxN qe82 recursionError :: boxZ qv71 :: boxN qe72 recursionError :: boxV qb91 b :: boxV qa81 a :: heapR h H :: refR y H :: boxR q3 (.cells #[.int .i64 x0.kind, .int .i64 x0.n, .string x0.s, .int .i64 x1.kind, .int .i64 x1.n, .string x1.s] 34) :: [] : List Res) fun b17_100 hb17_100 => ?_
          have Hb17_100 := Lib.hid hb17_100
          have Kb17_100 : Hid (∀ W (Q : List Res), Sep w (Q ++ b17_100) W → True) := Lib.hid fun W Q T => by
            rw [hb17_100] at T
            trivial
          have Cb17_100_0 := baseC3 (w := w) (b := qa81) hb17_100 6 rfl
          have K17_6 : KC w b17_100 29 #[hpV h, agV z, agV a] (.tuple #[.bool false, excZ]) := Lib.hid fun W Q T => by
            rw [Hb17_100.out] at T ⊢
            exact (by have hh := sameOp_ok HF.out.G (by decide) (Q.length + 7) T (atR rfl) z a; rw [← HS2.out] at hh; exact hh)
          have R17_4 : Hid (∀ W (Q : List Res), Sep w (Q ++ b17_100) W → W.cell? ⟨g, og + k * 3, none⟩ = some (.int .i64 z.kind) ∧ W.cell? ⟨g, og + k * 3 + 1, none⟩ = some (.int .i64 z.n) ∧ W.cell? ⟨g, og + k * 3 + 2, none⟩ = some (.string z.s)) := Lib.hid fun W Q T => by rw [Hb17_100.out] at T; exact sepThree T (Q.length + 0) (atR rfl) HZ.out
          replace S := Lib.hid S
          clear hb17_100
          go_upto_region 17 with fail
          have S1 : Sep w ([] ++ b17_100) (wr) := by rw [Hb17_100.out]; exact S.out
          clear S
          refine regionP 10 3 (E := [emptyR]) (base := b17_100) (Sep.putE S1) ?_
          clear S1
          iterate 4 (refine quietP ?_; simp only [Act.put, pa]; try dsimp only [List.set])
          refine quietPC R17_4 ?_
          simp only [Act.put, pa]; try dsimp only [List.set]
          refine quietPC Cb17_100_0 ?_
          simp only [Act.put, pa]; try dsimp only [List.set]
          refine quietPK K17_6 ?_
          simp only [Act.put, pa]; try dsimp only [List.set]
          iterate 3 (refine quietP ?_; simp only [Act.put, pa]; try dsimp only [List.set])
          refine endP ?_
          refine readyS [10] ?_
          refine allocS 0 rfl (fun q => .pointer (some ⟨q, 0, none⟩)) (.cells #[.string ⟨#[]⟩, .int .i64 0, .int .i64 0, .string ⟨#[]⟩, .bool false] 38) (h1 := fun Wx => by go_simp) (h2 := fun qe181 => ?_) (hs := nilS)
          simp only [Act.put, pa]; try dsimp only [List.set]
          try simp only [List.set_cons_zero, List.set_cons_succ]
          refine quietS 11 ?_
          simp only [Act.put, pa]; try dsimp only [List.set]
          refine readyS [12] ?_
          refine detS undef [boxE qe181] (h1 := fun Wx hSw => by (have hz := hSw.box (b := qe181) (o := objE) 0 rfl; refine useZ5 hz fun z0 z1 z2 z3 z4 y0 y1 y2 y3 y4 => ?_; go_simp; exact ⟨rfl, hSw.set5 0 rfl (.string ⟨#[]⟩) (.int .i64 0) (.int .i64 0) (.string ⟨#[]⟩) (.bool false)⟩)) (h2 := ?_) (hs := nilS)
          simp only [Act.put, pa]; try dsimp only [List.set]
          refine doneS (h := fun w102 S => ?_)
          replace S : Sep w (boxE qe181 :: valsR (.slice (some ⟨g, og, none⟩) I1.length vc_72_1) I1 :: boxZ qv81 :: boxN qe82 recursionError :: boxZ qv71 :: boxN qe72 recursionError :: boxV qb91 b :: boxV qa81 a :: heapR h H :: refR y H :: boxR q3 (.cells #[.int .i64 x0.kind, .int .i64 x0.n, .string x0.s, .int .i64 x1.kind, .int .i64 x1.n, .string x1.s] 34) :: []) w102 := by rw [Hb17_100.out] at S; exact S
          clear Hb17_100 Kb17_100 K17_6 R17_4 Cb17_100_0
          refine named (boxE qe181 :: valsR (.slice (some ⟨g, og, none⟩) I1.length vc_72_1) I1 :: boxZ qv81 :: boxN qe82 recursionError :: boxZ qv71 :: boxN qe72 recursionError :: boxV qb91 b :: boxV qa81 a :: heapR h H :: refR y H :: boxR q3 (.cells #[.int .i64 x0.kind, .int .i64 x0.n, .string x0.s, .int .i64 x1.kind, .int .i64 x1.n, .string x1.s] 34) :: [] : List Res) fun b18_102 hb18_102 => ?_
          have Hb18_102 := Lib.hid hb18_102
          have Kb18_102 : Hid (∀ W (Q : List Res), Sep w (Q ++ b18_102) W → True) := Lib.hid fun W Q T => by
            rw [hb18_102] at T
            trivial
          have Cb18_102_0 := baseC5 (w := w) (b := qe181) hb18_102 0 rfl
          have K18_1 : KC w b18_102 19 #[excZ] (.bool true) := Lib.hid fun W Q T => by
            exact (none_z W).mono fun e W' ⟨e1, e2⟩ => ⟨e1, T.later e2⟩
          replace S := Lib.hid S
          clear hb18_102
          go_upto_region 18 with fail
          have S1 : Sep w ([] ++ b18_102) (w102) := by rw [Hb18_102.out]; exact S.out
          clear S
          refine regionL (E := []) (base := b18_102) S1 ?_
          clear S1
          refine quietLC Cb18_102_0 ?_
          simp only [Act.put, pa]; try dsimp only [List.set]
          refine quietLK K18_1 ?_
          simp only [Act.put, pa]; try dsimp only [List.set]
          refine quietL ?_
          simp only [Act.put, pa]; try dsimp only [List.set]
          refine doneL (h := fun w104 S => ?_)
          replace S : Sep w (boxE qe181 :: valsR (.slice (some ⟨g, og, none⟩) I1.length vc_72_1) I1 :: boxZ qv81 :: boxN qe82 recursionError :: boxZ qv71 :: boxN qe72 recursionError :: boxV qb91 b :: boxV qa81 a :: heapR h H :: refR y H :: boxR q3 (.cells #[.int .i64 x0.kind, .int .i64 x0.n, .string x0.s, .int .i64 x1.kind, .int .i64 x1.n, .string x1.s] 34) :: []) w104 := by rw [Hb18_102.out] at S; exact S
          clear Hb18_102 Kb18_102 K18_1 Cb18_102_0
          refine named (boxE qe181 :: valsR (.slice (some ⟨g, og, none⟩) I1.length vc_72_1) I1 :: boxZ qv81 :: boxN qe82 recursionError :: boxZ qv71 :: boxN qe72 recursionError :: boxV qb91 b :: boxV qa81 a :: heapR h H :: refR y H :: boxR q3 (.cells #[.int .i64 x0.kind, .int .i64 x0.n, .string x0.s, .int .i64 x1.kind, .int .i64 x1.n, .string x1.s] 34) :: [] : List Res) fun b20_104 hb20_104 => ?_
          have Hb20_104 := Lib.hid hb20_104
          have Kb20_104 : Hid (∀ W (Q : List Res), Sep w (Q ++ b20_104) W → True) := Lib.hid fun W Q T => by
            rw [hb20_104] at T
            trivial
          replace S := Lib.hid S
          clear hb20_104
          go_upto_region 20 with fail
          have S1 : Sep w ([] ++ b20_104) (w104) := by rw [Hb20_104.out]; exact S.out
          clear S
          refine regionL (E := []) (base := b20_104) S1 ?_
          clear S1
          refine quietL ?_
          simp only [Act.put, pa]; try dsimp only [List.set]
          refine doneL (h := fun w106 S => ?_)
          replace S : Sep w (boxE qe181 :: valsR (.slice (some ⟨g, og, none⟩) I1.length vc_72_1) I1 :: boxZ qv81 :: boxN qe82 recursionError :: boxZ qv71 :: boxN qe72 recursionError :: boxV qb91 b :: boxV qa81 a :: heapR h H :: refR y H :: boxR q3 (.cells #[.int .i64 x0.kind, .int .i64 x0.n, .string x0.s, .int .i64 x1.kind, .int .i64 x1.n, .string x1.s] 34) :: []) w106 := by rw [Hb20_104.out] at S; exact S
          clear Hb20_104 Kb20_104
          replace S : Sep w ([boxE qe181, valsR (.slice (some ⟨g, og, none⟩) I1.length vc_72_1) I1, boxZ qv81, boxN qe82 recursionError, boxZ qv71, boxN qe72 recursionError, boxV qb91 b, boxV qa81 a, heapR h H, refR y H, boxR q3 (.cells #[.int .i64 x0.kind, .int .i64 x0.n, .string x0.s, .int .i64 x1.kind, .int .i64 x1.n, .string x1.s] 34)] ++ []) (w106) := by
            refine (show Sep w ([boxE qe181, valsR (.slice (some ⟨g, og, none⟩) I1.length vc_72_1) I1, boxZ qv81, boxN qe82 recursionError, boxZ qv71, boxN qe72 recursionError, boxV qb91 b, boxV qa81 a, heapR h H, refR y H, boxR q3 (.cells #[.int .i64 x0.kind, .int .i64 x0.n, .string x0.s, .int .i64 x1.kind, .int .i64 x1.n, .string x1.s] 34)] ++ []) _ from S).perm ?_
            exact List.Perm.append_right [] (perm_of (l := [boxE qe181, valsR (.slice (some ⟨g, og, none⟩) I1.length vc_72_1) I1, boxZ qv81, boxN qe82 recursionError, boxZ qv71, boxN qe72 recursionError, boxV qb91 b, boxV qa81 a, heapR h H, refR y H, boxR q3 (.cells #[.int .i64 x0.kind, .int .i64 x0.n, .string x0.s, .int .i64 x1.kind, .int .i64 x1.n, .string x1.s] 34)]) [0, 1, 2, 3, 4, 5, 6, 7, 8, 9, 10] (by show (List.range' 0 11).Perm [0, 1, 2, 3, 4, 5, 6, 7, 8, 9, 10]; decide) (by rfl))
          iterate 1 replace S := S.tail
          replace S : Sep w (valsR (.slice (some ⟨g, og, none⟩) I1.length vc_72_1) I1 :: boxZ qv81 :: boxN qe82 recursionError :: boxZ qv71 :: boxN qe72 recursionError :: boxV qb91 b :: boxV qa81 a :: heapR h H :: refR y H :: boxR q3 (.cells #[.int .i64 x0.kind, .int .i64 x0.n, .string x0.s, .int .i64 x1.kind, .int .i64 x1.n, .string x1.s] 34) :: []) (w106) := S
          have hi1 : IntKind.i64.wrap ((k : Int) + 1) = (k : Int) + 1 := IntWalk.i64_in _ (by have := HIL.out; omega)
          replace S := Lib.hid S
          go_wp2
          exact ⟨⟨k + 1, HLT.out, by go_num, Lib.hid (take_snoc HZ.out HA.out HS2.out.symm), S.out⟩, by have := HLT.out; simp [intOf]; omega⟩
        | some true, HS2 =>
          exfalso; have e := HIN.out; rw [inL_stop HZ.out HA.out (by rw [← HS2.out]; simp), ← HS2.out] at e; simp [sameC] at e
        | none, HS2 =>
          replace S : Sep w (valsR (.slice (some ⟨g, og, none⟩) I1.length vc_72_1) I1 :: boxZ qv81 :: boxN qe82 recursionError :: boxZ qv71 :: boxN qe72 recursionError :: boxV qb91 b :: boxV qa81 a :: heapR h H :: refR y H :: boxR q3 (.cells #[.int .i64 x0.kind, .int .i64 x0.n, .string x0.s, .int .i64 x1.kind, .int .i64 x1.n, .string x1.s] 34) :: []) wr := S
          refine named (valsR (.slice (some ⟨g, og, none⟩) I1.length vc_72_1) I1 :: boxZ qv81 :: boxN qe82 recursionError :: boxZ qv71 :: boxN qe72 recursionError :: boxV qb91 b :: boxV qa81 a :: heapR h H :: refR y H :: boxR q3 (.cells #[.int .i64 x0.kind, .int .i64 x0.n, .string x0.s, .int .i64 x1.kind, .int .i64 x1.n, .string x1.s] 34) :: [] : List Res) fun b17_100 hb17_100 => ?_
          have Hb17_100 := Lib.hid hb17_100
          have Kb17_100 : Hid (∀ W (Q : List Res), Sep w (Q ++ b17_100) W → True) := Lib.hid fun W Q T => by
            rw [hb17_100] at T
            trivial
          have Cb17_100_0 := baseC3 (w := w) (b := qa81) hb17_100 6 rfl
          have K17_6 : KC w b17_100 29 #[hpV h, agV z, agV a] (.tuple #[.bool false, excN recursionError]) := Lib.hid fun W Q T => by
            rw [Hb17_100.out] at T ⊢
            exact (by have hh := sameOp_ok HF.out.G (by decide) (Q.length + 7) T (atR rfl) z a; rw [← HS2.out] at hh; exact hh)
          have R17_4 : Hid (∀ W (Q : List Res), Sep w (Q ++ b17_100) W → W.cell? ⟨g, og + k * 3, none⟩ = some (.int .i64 z.kind) ∧ W.cell? ⟨g, og + k * 3 + 1, none⟩ = some (.int .i64 z.n) ∧ W.cell? ⟨g, og + k * 3 + 2, none⟩ = some (.string z.s)) := Lib.hid fun W Q T => by rw [Hb17_100.out] at T; exact sepThree T (Q.length + 0) (atR rfl) HZ.out
          replace S := Lib.hid S
          clear hb17_100
          go_upto_region 17 with fail
          have S1 : Sep w ([] ++ b17_100) (wr) := by rw [Hb17_100.out]; exact S.out
          clear S
          refine regionP 10 3 (E := [emptyR]) (base := b17_100) (Sep.putE S1) ?_
          clear S1
          iterate 4 (refine quietP ?_; simp only [Act.put, pa]; try dsimp only [List.set])
          refine quietPC R17_4 ?_
          simp only [Act.put, pa]; try dsimp only [List.set]
          refine quietPC Cb17_100_0 ?_
          simp only [Act.put, pa]; try dsimp only [List.set]
          refine quietPK K17_6 ?_
          simp only [Act.put, pa]; try dsimp only [List.set]
          iterate 3 (refine quietP ?_; simp only [Act.put, pa]; try dsimp only [List.set])
          refine endP ?_
          refine readyS [10] ?_
          refine allocS 0 rfl (fun q => .pointer (some ⟨q, 0, none⟩)) (.cells #[.string ⟨#[]⟩, .int .i64 0, .int .i64 0, .string ⟨#[]⟩, .bool false] 38) (h1 := fun Wx => by go_simp) (h2 := fun qe181 => ?_) (hs := nilS)
          simp only [Act.put, pa]; try dsimp only [List.set]
          try simp only [List.set_cons_zero, List.set_cons_succ]
          refine quietS 11 ?_
          simp only [Act.put, pa]; try dsimp only [List.set]
          refine readyS [12] ?_
          refine detS undef [boxN qe181 recursionError] (h1 := fun Wx hSw => by (have hz := hSw.box (b := qe181) (o := objE) 0 rfl; refine useZ5 hz fun z0 z1 z2 z3 z4 y0 y1 y2 y3 y4 => ?_; go_simp; exact ⟨rfl, hSw.set5 0 rfl (.string recursionError) (.int .i64 0) (.int .i64 0) (.string ⟨#[]⟩) (.bool false)⟩)) (h2 := ?_) (hs := nilS)
          simp only [Act.put, pa]; try dsimp only [List.set]
          refine doneS (h := fun w102 S => ?_)
          replace S : Sep w (boxN qe181 recursionError :: valsR (.slice (some ⟨g, og, none⟩) I1.length vc_72_1) I1 :: boxZ qv81 :: boxN qe82 recursionError :: boxZ qv71 :: boxN qe72 recursionError :: boxV qb91 b :: boxV qa81 a :: heapR h H :: refR y H :: boxR q3 (.cells #[.int .i64 x0.kind, .int .i64 x0.n, .string x0.s, .int .i64 x1.kind, .int .i64 x1.n, .string x1.s] 34) :: []) w102 := by rw [Hb17_100.out] at S; exact S
          clear Hb17_100 Kb17_100 K17_6 R17_4 Cb17_100_0
          refine named (boxN qe181 recursionError :: valsR (.slice (some ⟨g, og, none⟩) I1.length vc_72_1) I1 :: boxZ qv81 :: boxN qe82 recursionError :: boxZ qv71 :: boxN qe72 recursionError :: boxV qb91 b :: boxV qa81 a :: heapR h H :: refR y H :: boxR q3 (.cells #[.int .i64 x0.kind, .int .i64 x0.n, .string x0.s, .int .i64 x1.kind, .int .i64 x1.n, .string x1.s] 34) :: [] : List Res) fun b18_102 hb18_102 => ?_
          have Hb18_102 := Lib.hid hb18_102
          have Kb18_102 : Hid (∀ W (Q : List Res), Sep w (Q ++ b18_102) W → True) := Lib.hid fun W Q T => by
            rw [hb18_102] at T
            trivial
          have Cb18_102_0 := baseC5 (w := w) (b := qe181) hb18_102 0 rfl
          have K18_1 : KC w b18_102 19 #[excN recursionError] (.bool false) := Lib.hid fun W Q T => by
            exact (none_deep W).mono fun e W' ⟨e1, e2⟩ => ⟨e1, T.later e2⟩
          replace S := Lib.hid S
          clear hb18_102
          go_upto_region 18 with fail
          have S1 : Sep w ([] ++ b18_102) (w102) := by rw [Hb18_102.out]; exact S.out
          clear S
          refine regionL (E := []) (base := b18_102) S1 ?_
          clear S1
          refine quietLC Cb18_102_0 ?_
          simp only [Act.put, pa]; try dsimp only [List.set]
          refine quietLK K18_1 ?_
          simp only [Act.put, pa]; try dsimp only [List.set]
          refine quietL ?_
          simp only [Act.put, pa]; try dsimp only [List.set]
          refine doneL (h := fun w104 S => ?_)
          replace S : Sep w (boxN qe181 recursionError :: valsR (.slice (some ⟨g, og, none⟩) I1.length vc_72_1) I1 :: boxZ qv81 :: boxN qe82 recursionError :: boxZ qv71 :: boxN qe72 recursionError :: boxV qb91 b :: boxV qa81 a :: heapR h H :: refR y H :: boxR q3 (.cells #[.int .i64 x0.kind, .int .i64 x0.n, .string x0.s, .int .i64 x1.kind, .int .i64 x1.n, .string x1.s] 34) :: []) w104 := by rw [Hb18_102.out] at S; exact S
          clear Hb18_102 Kb18_102 K18_1 Cb18_102_0
          refine named (boxN qe181 recursionError :: valsR (.slice (some ⟨g, og, none⟩) I1.length vc_72_1) I1 :: boxZ qv81 :: boxN qe82 recursionError :: boxZ qv71 :: boxN qe72 recursionError :: boxV qb91 b :: boxV qa81 a :: heapR h H :: refR y H :: boxR q3 (.cells #[.int .i64 x0.kind, .int .i64 x0.n, .string x0.s, .int .i64 x1.kind, .int .i64 x1.n, .string x1.s] 34) :: [] : List Res) fun b19_104 hb19_104 => ?_
          have Hb19_104 := Lib.hid hb19_104
          have Kb19_104 : Hid (∀ W (Q : List Res), Sep w (Q ++ b19_104) W → True) := Lib.hid fun W Q T => by
            rw [hb19_104] at T
            trivial
          have Cb19_104_0 := baseC5 (w := w) (b := qe181) hb19_104 0 rfl
          have Cb19_104_1 := baseC5 (w := w) (b := qe72) hb19_104 5 rfl
          replace S := Lib.hid S
          clear hb19_104
          go_upto_region 19 with fail
          have S1 : Sep w ([] ++ b19_104) (w104) := by rw [Hb19_104.out]; exact S.out
          clear S
          refine regionL (E := []) (base := b19_104) S1 ?_
          clear S1
          refine quietLC Cb19_104_1 ?_
          simp only [Act.put, pa]; try dsimp only [List.set]
          refine quietLC Cb19_104_0 ?_
          simp only [Act.put, pa]; try dsimp only [List.set]
          iterate 2 (refine quietL ?_; simp only [Act.put, pa]; try dsimp only [List.set])
          refine doneL (h := fun w106 S => ?_)
          replace S : Sep w (boxN qe181 recursionError :: valsR (.slice (some ⟨g, og, none⟩) I1.length vc_72_1) I1 :: boxZ qv81 :: boxN qe82 recursionError :: boxZ qv71 :: boxN qe72 recursionError :: boxV qb91 b :: boxV qa81 a :: heapR h H :: refR y H :: boxR q3 (.cells #[.int .i64 x0.kind, .int .i64 x0.n, .string x0.s, .int .i64 x1.kind, .int .i64 x1.n, .string x1.s] 34) :: []) w106 := by rw [Hb19_104.out] at S; exact S
          clear Hb19_104 Kb19_104 Cb19_104_0 Cb19_104_1
          replace S := Lib.hid S.below
          go_wp2
          go_ret
          exact ⟨rfl, by rw [← HQ3.out]; exact S.out⟩
      ·
        obtain rfl : k = I1.length := by omega
        exfalso; have e := HIN.out; rw [inL_all (by have := HA.out; rwa [List.take_length] at this)] at e; simp [sameC] at e
theorem shaped_m (W : World) (h : W.ShapedOpen Tryz.prog) : ∃ m, W.cell? ⟨0, 0, none⟩ = some (.int .i64 m) :=
  cell_of_shapedOpen_int (g := 0) (t := 3) (zero := #[.int .i64 0]) h (of_decide_eq_true (by kernel_rfl)) (by kernel_rfl) rfl (by kernel_rfl) (by kernel_rfl) Tryz.underlying3
theorem walk (w : World) (sl : Value) (l : List ObjI) (hs : SeesO w sl l) (x0 x1 : V) (m : Int) (hm : w.cell? ⟨0, 0, none⟩ = some (.int .i64 m)) :
    Calls Tryz.prog 8 #[sl, .agg #[.int .i64 x0.kind, .int .i64 x0.n, .string x0.s, .int .i64 x1.kind, .int .i64 x1.n, .string x1.s]] w fun e W' => e = .returned (.bool true) ∧ Below w.heap.size w W' := by
  cases hq : (madeO l).inC (plainV x0) (plainV x1) with
  | ok bb => exact walk_k w sl l hs x0 x1 m hm bb hq
  | type => exact walk_y w sl l hs x0 x1 m hm hq
  | deep => exact walk_d w sl l hs x0 x1 m hm hq
set_option maxRecDepth 100000 in
theorem lifted (os : Os) (started : os.Started) (H : Type) (enc : TypeId × Value → H) :
    ReturnsInHanded {} Tryz.checked os 8 .any (Rows.operateInSpec.pre6 enc Tryz.prog Tryz.f8 Rows.operateInRow.domain false) (Rows.operateInSpec.post enc Tryz.prog Tryz.f8 false true false false) := by
  refine law_lift (C := Tryz.checked) own started (by kernel_rfl) Tryz.func8
    (ChangeSpec.witness6 (enc := enc) (C := Tryz.checked) false ⟨#[], #[.slice none 0 0, .agg #[.int .i64 0, .int .i64 0, .string ⟨#[]⟩, .int .i64 0, .int .i64 0, .string ⟨#[]⟩]], []⟩ 8 (by kernel_rfl) (by kernel_rfl) (by kernel_rfl) (by kernel_rfl))
    (by kernel_rfl) (by kernel_rfl) rfl (fun ds h => by
      match ds, h with
      | [d1, d2], _ => exact ⟨rfl, rfl, rfl⟩) rfl Tryz.underlying4 ?_
  intro W base args ds ps hval hA hlt hwt hsh
  rw [Tryz.params8] at hA hval
  obtain ⟨v0, vs0, d0, ds0, p0, q0, hargs, rfl, rfl, h0, r0⟩ := trodAll_cons hA
  obtain ⟨v1, vs1, d1, ds1, p1, q1, rfl, rfl, rfl, h1, r1⟩ := trodAll_cons r0
  obtain ⟨rfl, rfl, rfl⟩ := trodAll_nil r1
  obtain rfl : args = #[v0, v1] := by cases args; simp_all
  obtain ⟨x0, len0, cap0, rfl⟩ := okWide_slice Tryz.underlying53 (hval 0 53 v0 rfl rfl)
  obtain ⟨fuel0, hf0⟩ := h0
  obtain ⟨l0, s0⟩ := open_objs (v := .slice x0 len0 cap0) hf0
  obtain ⟨cs1, rfl, hsz1⟩ := okWide_array Tryz.underlying34 (hval 1 34 v1 rfl rfl)
  obtain ⟨fuel1, hf1⟩ := h1
  obtain ⟨p1x, e1⟩ := pair_of_trod (cs := cs1.toList) hf1
  obtain rfl : cs1 = (pairC p1x).toArray := by rw [← e1]
  obtain ⟨m, hm⟩ := shaped_m W hsh
  -- WALK
  exact walk W _ l0 s0 p1x.1 p1x.2 m hm
theorem proved : Rows.OperateInSaid :=
  OpenClaim.holds_of_wide 8 Tryz.f8 rfl rfl rfl rfl rfl rfl rfl ⟨rfl, rfl, rfl, rfl, rfl⟩ rfl rfl rfl rfl rfl (by kernel_rfl) Tryz.func8 (by kernel_rfl)
    (of_decide_eq_true (by kernel_rfl)) (by unfold Func.isWrapper; first | (rw [if_pos (by decide +kernel)]; kernel_rfl) | (rw [if_neg (by decide +kernel)]; exact ⟨rfl, rfl⟩))
    (fun os started H enc _ => lifted os started H enc)
#print axioms proved
end Go.Proofs.YtellmfimmghidaaGreat.operateIn
