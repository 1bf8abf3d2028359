/-
  OperateSlices: for any values, any text and any place, the law returns true: slices of strs and rows. No condition.
-/
import Derived.Test.YtellmfimmghidaaGreatShownP
import Derived.Test.YtellmfimmghidaaGreatFrame
import Derived.Test.YtellmfimmghidaaGreatRowX
import Derived.Test.YtellmfimmghidaaGreatSlc
import Derived.Test.YtellmfimmghidaaGreatOprN
import Derived.Test.YtellmfimmghidaaGreatLawO
import Derived.Test.YtellmfimmghidaaGreatOprH
import Derived.Test.YtellmfimmghidaaGreatRowT
import Derived.Test.YtellmfimmghidaaGreatTellE
import Derived.Test.YtellmfimmghidaaGreatOprD
import Derived.Test.YtellmfimmghidaaGreatCmpT
import Derived.Test.YtellmfimmghidaaGreatText1
/- ch 16: <, <=, >, >=. -/
namespace Go.Proofs.YtellmfimmghidaaGreat
set_option linter.unusedSimpArgs false
open Go.RowKit
set_option linter.unusedVariables false
section
variable {w W : World} {Rs : List Res} {h : Nat} {H : HeapM}
end
end Go.Proofs.YtellmfimmghidaaGreat
/- ch 16: Cmp, op by op; order plainly. -/
namespace Go.Proofs.YtellmfimmghidaaGreat
set_option linter.unusedSimpArgs false
open Go.RowKit
set_option linter.unusedVariables false
section
variable {w W : World} {Rs : List Res} {h : Nat} {H : HeapM}
end
def vI (n : Int) (h : (Lit.int .i64 n).wf = true) : V := ⟨2, n, ⟨#[]⟩, by decide, h, by decide⟩
def vS (s : ByteArray) (h : s.size ≤ maxLen) : V := ⟨3, 0, s, by decide, by decide, h⟩
end Go.Proofs.YtellmfimmghidaaGreat
/- ch 16: what multiply, Neg and Bin refuse; Truth. -/
namespace Go.Proofs.YtellmfimmghidaaGreat
set_option linter.unusedSimpArgs false
open Go.RowKit
set_option linter.unusedVariables false
section
variable {w W : World} {Rs : List Res} {h : Nat} {H : HeapM}
end
end Go.Proofs.YtellmfimmghidaaGreat
/- ch 16: values that are no objects: told, and the same. -/
namespace Go.Proofs.YtellmfimmghidaaGreat
set_option linter.unusedSimpArgs false
open Go.RowKit
set_option linter.unusedVariables false
theorem HeapM.kind_no (H : HeapM) (v : V) (h : ¬ v.kind = 4) : H.kind v = 0 := Classical.byContradiction fun e => h (H.kind_ref v e)
theorem HeapM.rowB_no (H : HeapM) (v : V) (h : ¬ v.kind = 4) : H.rowB v = false := by unfold HeapM.rowB; rw [H.kind_no v h]; rfl
theorem HeapM.wholeB_no (H : HeapM) (v : V) (h : ¬ v.kind = 4) : H.wholeB v = false := by unfold HeapM.wholeB; rw [H.rowB_no v h, H.kind_no v h]; rfl
/-- Two values that are no objects are the same if they are the same one. -/
theorem HeapM.same_no (H : HeapM) (f : Nat) (x y : V) (hx : ¬ x.kind = 4) (hy : ¬ y.kind = 4) : H.sameF f x y = some (decide (x = y)) := by
  have kx := H.kind_no x hx
  have ky := H.kind_no y hy
  have wx := H.wholeB_no x hx
  cases f <;> (unfold HeapM.sameF HeapM.sameT HeapM.oneB; simp only [kx, ky, wx]; by_cases e : x = y <;> simp [e])
section
variable {w W : World} {Rs : List Res} {h : Nat} {H : HeapM}
end
end Go.Proofs.YtellmfimmghidaaGreat
/- ch 16: multiply, of rows; what Bin makes of rows. -/
namespace Go.Proofs.YtellmfimmghidaaGreat
set_option linter.unusedSimpArgs false
open Go.RowKit
set_option linter.unusedVariables false
section
variable {w W : World} {Rs : List Res} {h : Nat} {H : HeapM}
theorem bin_add_row (S : Sep w Rs W) (i : Nat) (hi : Rs[i]? = some (heapR h H)) {N : Nat} (G : H.Good N) (hN : N + 1 ≤ 4000000) (x y : V) (hx : H.rowB x = true) (hk : H.kind x = H.kind y) (hl : (H.items x).length + (H.items y).length ≤ 4096) : Calls Tryz.prog 23 #[.pointer (some ⟨h, 0, none⟩), .string ⟨#[43]⟩, .agg #[.int .i64 x.kind, .int .i64 x.n, .string x.s], .agg #[.int .i64 y.kind, .int .i64 y.n, .string y.s]] W fun e W' => e = .returned (.tuple #[.agg #[.int .i64 4, .int .i64 (H.last + 1), .string ⟨#[]⟩], excZ]) ∧ Sep w (Rs.set i (heapR h (H.add (rowO (H.kind x) (H.okKind x) (H.items x ++ H.items y))))) W' := by
  refine bin_add S ⟨#[43]⟩ (by decide) x y (fun e => by have a := HeapM.rowB_kind hx; have b := H.kind_ref x (by omega); omega) rfl 4 (H.last + 1) ⟨#[]⟩ ⟨#[]⟩ (fun Q W T => (add_row T (Q.length + i) (by rw [List.getElem?_append_right (by omega), Nat.add_sub_cancel_left]; exact hi) G hN x y hx hk hl).mono (fun e W' hh => ⟨hh.1, by have q := hh.2; rwa [List.set_append_right _ _ (by omega), Nat.add_sub_cancel_left] at q⟩))
end
end Go.Proofs.YtellmfimmghidaaGreat
namespace Go.Proofs.YtellmfimmghidaaGreat.operateSlices
set_option linter.unusedSimpArgs false
open Go.ChangeShapes Go.WideShapes Go.ChangeAt Go.RowKit
open Go.ChangeMaps (open_string)
set_option linter.unusedVariables false
attribute [local irreducible] wpSeqS wpAnyS wpPreS
theorem high_at (n : Nat) (t : Int) (hn : n ≤ 9000000) (h : okI t) : lowN n 0 = 0 ∧ highN n 0 t = lowN n t := by
  have a := placeI_le (max (n : Int) 0) t (by omega)
  have e : placeI (max (n : Int) 0) 0 = 0 := by unfold placeI; rw [if_neg (by omega), if_neg (by omega)]
  unfold highN lowN
  rw [e]
  refine ⟨rfl, ?_⟩
  rw [Int.max_eq_right a.1]
theorem high_end (n : Nat) (f : Int) (hn : n ≤ 9000000) (h : okI f) : highN n f n = n := by
  have a := placeI_le (max (n : Int) 0) f (by omega)
  have e : placeI (max (n : Int) 0) n = n := by unfold placeI; rw [if_neg (by omega)]; split <;> omega
  unfold highN
  rw [e]
  omega
theorem high_all (n : Nat) (hn : n ≤ 9000000) : lowN n (-9223372036854775808) = 0 ∧ highN n (-9223372036854775808) 9223372036854775807 = n := by
  have e1 : placeI (max (n : Int) 0) (-9223372036854775808) = 0 := by unfold placeI; rw [if_pos (by omega), if_pos (by omega)]
  have e2 : placeI (max (n : Int) 0) 9223372036854775807 = n := by unfold placeI; rw [if_neg (by omega), if_pos (by omega)]; omega
  unfold highN lowN
  rw [e1, e2]
  omega
theorem slice_at (l : List V) (t : Int) (hn : l.length ≤ 9000000) (h : okI t) : sliceL l 0 t = l.take (lowN l.length t) := by
  obtain ⟨a, b⟩ := high_at l.length t hn h
  unfold sliceL
  rw [a, b]; simp
theorem slice_end (l : List V) (f : Int) (hn : l.length ≤ 9000000) (h : okI f) : sliceL l f l.length = l.drop (lowN l.length f) := by
  unfold sliceL
  rw [high_end l.length f hn h]
  exact List.take_of_length_le (by rw [List.length_drop]; omega)
theorem slice_all (l : List V) (hn : l.length ≤ 9000000) : sliceL l (-9223372036854775808) 9223372036854775807 = l := by
  obtain ⟨a, b⟩ := high_all l.length hn
  unfold sliceL
  rw [a, b]; simp
theorem seesV_below {w W : World} {sv : Value} {l : List V} (h : SeesV w sv l) (b : Below w.heap.size w W) : SeesV W sv l := by
  obtain ⟨a, c, h1, h2, h3, h4⟩ := h
  refine ⟨a, c, h1, h2, h3, ?_⟩
  rcases h4 with h4 | ⟨g, o, h5, h6⟩
  · exact .inl h4
  · exact .inr ⟨g, o, h5, fun i v hv => by obtain ⟨c0, c1, c2⟩ := h6 i v hv; exact ⟨cellBelow c0 b, cellBelow c1 b, cellBelow c2 b⟩⟩
theorem strCut (s : ByteArray) (p : Nat) (hp : p ≤ s.size) : s.extract 0 p ++ s.extract p s.size = s := by
  rw [ByteArray.extract_append_extract]; simp
theorem bin_add_rows {w W : World} {Rs : List Res} {h : Nat} {H : HeapM} (S : Sep w Rs W) (i : Nat) (hi : Rs[i]? = some (heapR h H)) {N : Nat} (G : H.Good N) (hN : N + 1 ≤ 4000000) (x y : V) (hx : H.rowB x = true) (hk : H.kind x = H.kind y) (r : List V) (hr : H.items x ++ H.items y = r) (hl : r.length ≤ 4096) : Calls Tryz.prog 23 #[.pointer (some ⟨h, 0, none⟩), .string ⟨#[43]⟩, .agg #[.int .i64 x.kind, .int .i64 x.n, .string x.s], .agg #[.int .i64 y.kind, .int .i64 y.n, .string y.s]] W fun e W' => e = .returned (.tuple #[.agg #[.int .i64 4, .int .i64 (H.last + 1), .string ⟨#[]⟩], excZ]) ∧ Sep w (Rs.set i (heapR h (H.add (rowO (H.kind x) (H.okKind x) r)))) W' := by
  subst hr
  exact bin_add_row S i hi G hN x y hx hk (by rw [← List.length_append]; exact hl)
theorem rows_any {w W : World} {Rs : List Res} {h : Nat} {H : HeapM} (S : Sep w Rs W) (i : Nat) (hi : Rs[i]? = some (heapR h H)) {N : Nat} (G : H.Good N) (hN : N + 1 ≤ 4000000) (sl : Value) (l : List V) (hs : SeesV w sl l) (kd : Int) (tb : Bool) (hkd : kd = 1 ∧ tb = false ∨ kd = 2 ∧ tb = true) (hok : okI kd) : Calls Tryz.prog 38 #[.pointer (some ⟨h, 0, none⟩), .bool tb, sl] W fun e W' => e = .returned (.tuple #[.agg #[.int .i64 4, .int .i64 (H.last + 1), .string ⟨#[]⟩], .int .i64 (l.take 8).length]) ∧ Sep w (Rs.set i (heapR h (H.add (rowO kd hok ((l.take 8).map plainV))))) W' := by
  rcases hkd with ⟨rfl, rfl⟩ | ⟨rfl, rfl⟩
  · exact rows_list S i hi G hN sl l hs
  · exact rows_tuple S i hi G hN sl l hs
theorem rowB_of {H : HeapM} {v : V} {kd : Int} {tb : Bool} (hk : H.kind v = kd) (h : kd = 1 ∧ tb = false ∨ kd = 2 ∧ tb = true) : H.rowB v = true := by
  unfold HeapM.rowB; rw [hk]
  rcases h with ⟨rfl, _⟩ | ⟨rfl, _⟩ <;> rfl
/-- Rows of the same values are equal. -/
theorem same_rows (H : HeapM) (f : Nat) (x y : V) (hx : H.rowB x = true) (hk : H.kind x = H.kind y) (hi : H.items x = H.items y) : H.sameF (f + 1) x y = some true := by
  have hkx := HeapM.rowB_kind hx
  have one : ∀ (g : Nat) (v : V), H.sameF g v v = some true := fun g v => by
    have e : H.oneB v v = true := by unfold HeapM.oneB; split <;> simp_all
    cases g with
    | zero => unfold HeapM.sameF HeapM.sameT; rw [if_pos e]
    | succ g => unfold HeapM.sameF HeapM.sameT; rw [if_pos e]
  have all : ∀ l : List V, allM (fun p : V × V => H.sameF f p.1 p.2) (l.zip l) = some true := fun l => allM_all fun p hp => by
    have : p.1 = p.2 := by
      induction l with
      | nil => cases hp
      | cons a l ih =>
        rw [List.zip_cons_cons] at hp
        rcases List.mem_cons.1 hp with e | e
        · rw [e]
        · exact ih e
    rw [this]; exact one f p.2
  unfold HeapM.sameF HeapM.sameT
  rw [if_neg (show ¬ H.kind x = 3 by omega), hi, all]
  have hw : H.wholeB x = true := by unfold HeapM.wholeB; rw [hx]; rfl
  have hs : H.sizeB x = H.sizeB y := by unfold HeapM.sizeB; rw [if_neg (by omega), if_neg (by omega), hi]
  rw [hw, hk, hs]
  simp
set_option maxRecDepth 100000 in
set_option maxHeartbeats 12800000 in
theorem walk0 (w : World) (s : ByteArray) (hs0 : s.size ≤ maxLen) (at_ : Int) (hat : okI at_) (sa : Value) (l : List V) (hs : SeesV w sa l) :
    Calls Tryz.prog 26 #[sa, .string s, .int .u8 0, .int .i64 at_] w fun e W' => e = .returned (.bool true) ∧ Below w.heap.size w W' := by
  obtain ⟨k8, hk8⟩ : ∃ k, k = min s.size 8 := ⟨_, rfl⟩
  have he : (if (8 : Int) < (s.size : Int) then (8 : Int) else (s.size : Int)) = (k8 : Int) := by rw [hk8]; split <;> omega
  have he2 : min (s.size : Int) 8 = (k8 : Int) := by omega
  have hl8 : (k8 : Int) ≤ (s.size : Int) := by omega
  have hz8 : (s.extract 0 k8).size ≤ 8 := by rw [ByteArray.size_extract]; omega
  obtain ⟨tx, hT⟩ : ∃ t, t = s.extract 0 k8 := ⟨_, rfl⟩
  rw [← hT] at hz8
  have HT := Lib.hid hT
  have HZ8 := Lib.hid hz8
  have HTM : Hid (tx.size ≤ maxLen) := Lib.hid (by unfold maxLen; have := HZ8.out; omega)
  clear hk8 hT hz8
  have HS := Lib.hid hs
  have HAT := Lib.hid hat
  have S := Sep.start (Below.refl w.heap.size w)
  have M0 := Lib.hid (shown_ok S)
  clear S hs hat
  go_enter Tryz.func26, Tryz.ntmps26
  go_wp2_with fail
  refine M0.out.mono ?_
  rintro e w1 ⟨rfl, S⟩
  clear M0
  have M := Lib.hid S.new
  clear S
  go_wp2_with fail
  refine M.out.mono ?_
  rintro e w2 ⟨h, rfl, S, -⟩
  clear M
  replace S : Sep w (heapR h (HX []) :: []) _ := S
  have HG0 := Lib.hid HXG.nil
  refine named (heapR h (HX []) :: [] : List Res) fun b5_2 hb5_2 => ?_
  have Hb5_2 := Lib.hid hb5_2
  have Kb5_2 : Hid (∀ W (Q : List Res), Sep w (Q ++ b5_2) W → True) := Lib.hid fun W Q T => by
    rw [hb5_2] at T
    trivial
  have K5_5 : Hid (∀ W (Q : List Res), Sep w (Q ++ b5_2) W → Calls Tryz.prog 17 #[.string tx] W fun e W' => e = .returned (.agg #[.int .i64 3, .int .i64 0, .string tx]) ∧ Sep w (Q ++ b5_2) W') := Lib.hid fun W Q T => by
    exact (lstr_ok W tx).mono fun e W' ⟨e1, e2⟩ => ⟨e1, T.later e2⟩
  replace S := Lib.hid S
  clear hb5_2
  go_upto_region 5 with fail
  have S1 : Sep w ([] ++ b5_2) (w2) := by rw [Hb5_2.out]; exact S.out
  clear S
  refine regionL (E := [emptyR]) (base := b5_2) (Sep.putE S1) ?_
  clear S1
  iterate 4 (refine quietL ?_; simp only [Act.put, pa]; try dsimp only [List.set])
  refine quietL (v := .string tx) (hy := fun E Wx hSw => by (rw [HT.out]; go_simp; exact ⟨rfl, hSw⟩)) (h := ?_)
  simp only [Act.put, pa]; try dsimp only [List.set]
  refine quietL (hy := fun E Wx hSw => by (go_simp; exact symCall (K5_5.out _ _ hSw))) (h := ?_)
  simp only [Act.put, pa]; try dsimp only [List.set]
  refine allocL 0 rfl (fun q => .pointer (some ⟨q, 0, none⟩)) (.cells #[.int .i64 0, .int .i64 0, .string ⟨#[]⟩] 29) (h1 := fun Wx => by go_simp) (h2 := fun qv1 => ?_)
  simp only [Act.put, pa]; try dsimp only [List.set]
  try simp only [List.set_cons_zero, List.set_cons_succ]
  refine detL undef [boxW qv1 3 0 tx] (h1 := fun Wx hSw => by (have hz := hSw.box (b := qv1) (o := objZ) 0 rfl; refine useZ3 hz fun z0 z1 z2 y0 y1 y2 => ?_; go_simp; exact ⟨rfl, hSw.set3 0 rfl (.int .i64 3) (.int .i64 0) (.string tx)⟩)) (h2 := ?_)
  simp only [Act.put, pa]; try dsimp only [List.set]
  refine doneL (h := fun w4 S => ?_)
  replace S : Sep w (boxW qv1 3 0 tx :: heapR h (HX []) :: []) w4 := by rw [Hb5_2.out] at S; exact S
  clear Hb5_2 Kb5_2 K5_5
  clear he he2 hl8
  refine named (boxW qv1 3 0 tx :: heapR h (HX []) :: [] : List Res) fun b6_4 hb6_4 => ?_
  have Hb6_4 := Lib.hid hb6_4
  have Kb6_4 : Hid (∀ W (Q : List Res), Sep w (Q ++ b6_4) W → True) := Lib.hid fun W Q T => by
    rw [hb6_4] at T
    trivial
  have Cb6_4_0 : Hid (∀ W (Q : List Res), Sep w (Q ++ b6_4) W → W.cell? ⟨qv1, 0, none⟩ = some (.int .i64 3) ∧ W.cell? ⟨qv1, 1, none⟩ = some (.int .i64 0) ∧ W.cell? ⟨qv1, 2, none⟩ = some (.string tx)) := Lib.hid fun W Q T => by
    rw [hb6_4] at T
    have i0 := T.box (b := qv1) (o := objW 3 0 tx) (Q.length + 0) (by rw [List.getElem?_append_right (by omega), Nat.add_sub_cancel_left]; rfl)
    exact ⟨cellAt i0 0 rfl, cellAt i0 1 rfl, cellAt i0 2 rfl⟩
  replace S := Lib.hid S
  clear hb6_4
  go_upto_region 6 with fail
  have S1 : Sep w ([] ++ b6_4) (w4) := by rw [Hb6_4.out]; exact S.out
  clear S
  refine regionL (E := []) (base := b6_4) S1 ?_
  clear S1
  iterate 2 (refine quietL (hy := fun E Wx hSw => by ((refine and3 (Cb6_4_0.out _ _ hSw) fun u0 u1 u2 => ?_); go_simp; exact ⟨rfl, hSw⟩)) (h := ?_); simp only [Act.put, pa]; try dsimp only [List.set])
  iterate 2 (refine quietL ?_; simp only [Act.put, pa]; try dsimp only [List.set])
  refine doneL (h := fun w6 S => ?_)
  replace S : Sep w (boxW qv1 3 0 tx :: heapR h (HX []) :: []) w6 := by rw [Hb6_4.out] at S; exact S
  clear Hb6_4 Kb6_4 Cb6_4_0
  refine named (boxW qv1 3 0 tx :: heapR h (HX []) :: [] : List Res) fun b7_6 hb7_6 => ?_
  have Hb7_6 := Lib.hid hb7_6
  have Kb7_6 : Hid (∀ W (Q : List Res), Sep w (Q ++ b7_6) W → True) := Lib.hid fun W Q T => by
    rw [hb7_6] at T
    trivial
  replace S := Lib.hid S
  clear hb7_6
  go_upto_region 7 with fail
  have S1 : Sep w ([] ++ b7_6) (w6) := by rw [Hb7_6.out]; exact S.out
  clear S
  refine regionL (E := []) (base := b7_6) S1 ?_
  clear S1
  iterate 3 (refine quietL ?_; simp only [Act.put, pa]; try dsimp only [List.set])
  refine doneL (h := fun w8 S => ?_)
  replace S : Sep w (boxW qv1 3 0 tx :: heapR h (HX []) :: []) w8 := by rw [Hb7_6.out] at S; exact S
  clear Hb7_6 Kb7_6
  have HOI : Hid (-9223372036854775808 ≤ at_ ∧ at_ ≤ 9223372036854775807) := Lib.hid (okI_range HAT.out)
  obtain ⟨p, hp⟩ : ∃ p, p = lowN tx.size at_ := ⟨_, rfl⟩
  have hpn : p ≤ tx.size := by rw [hp]; have := lowN_eq tx.size at_ 0; omega
  have HPP := Lib.hid hp
  have HPN := Lib.hid hpn
  clear hp hpn
  refine named (boxW qv1 3 0 tx :: heapR h (HX []) :: [] : List Res) fun b9_8 hb9_8 => ?_
  have Hb9_8 := Lib.hid hb9_8
  have Kb9_8 : Hid (∀ W (Q : List Res), Sep w (Q ++ b9_8) W → True) := Lib.hid fun W Q T => by
    rw [hb9_8] at T
    trivial
  have Cb9_8_0 : Hid (∀ W (Q : List Res), Sep w (Q ++ b9_8) W → W.cell? ⟨qv1, 0, none⟩ = some (.int .i64 3) ∧ W.cell? ⟨qv1, 1, none⟩ = some (.int .i64 0) ∧ W.cell? ⟨qv1, 2, none⟩ = some (.string tx)) := Lib.hid fun W Q T => by
    rw [hb9_8] at T
    have i0 := T.box (b := qv1) (o := objW 3 0 tx) (Q.length + 0) (by rw [List.getElem?_append_right (by omega), Nat.add_sub_cancel_left]; rfl)
    exact ⟨cellAt i0 0 rfl, cellAt i0 1 rfl, cellAt i0 2 rfl⟩
  have K9_4 : Hid (∀ W (Q : List Res), Sep w (Q ++ b9_8) W → Calls Tryz.prog 16 #[.int .i64 at_] W fun e W' => e = .returned (.agg #[.int .i64 2, .int .i64 at_, .string ⟨#[]⟩]) ∧ Sep w (Q ++ b9_8) W') := Lib.hid fun W Q T => by
    exact (lnum_ok W at_).mono fun e W' ⟨e1, e2⟩ => ⟨e1, T.later e2⟩
  have K9_5 : Hid (∀ W (Q : List Res), Sep w (Q ++ b9_8) W → Calls Tryz.prog 59 #[.pointer (some ⟨h, 0, none⟩), .agg #[.int .i64 3, .int .i64 0, .string tx], .agg #[.int .i64 0, .int .i64 0, .string ⟨#[]⟩], .agg #[.int .i64 2, .int .i64 at_, .string ⟨#[]⟩]] W fun e W' => e = .returned (.tuple #[.agg #[.int .i64 3, .int .i64 0, .string (tx.extract 0 p)], excZ]) ∧ Sep w (Q ++ b9_8) W') := Lib.hid fun W Q T => by
    rw [Hb9_8.out] at T ⊢
    exact sl_strs T (Q.length + 1) (by rw [List.getElem?_append_right (by omega), Nat.add_sub_cancel_left]; rfl) (vS tx HTM.out) V.zero (vI at_ HAT.out) rfl 0 at_ rfl rfl (by decide) HAT.out rfl rfl (tx.extract 0 p) (by have h := high_at tx.size at_ (by have := HZ8.out; omega) HAT.out; show tx.extract (lowN tx.size 0) (highN tx.size 0 at_) = _; rw [h.1, h.2, HPP.out])
  replace S := Lib.hid S
  clear hb9_8
  go_upto_region 9 with fail
  go_cut [13, 14] (fun s13 s14 wx => ∃ qq0_9 qq1_9, s13 = .pointer (some ⟨qq0_9, 0, none⟩) ∧ s14 = .pointer (some ⟨qq1_9, 0, none⟩) ∧ Sep w ([boxW qq0_9 3 0 (tx.extract 0 p), boxE qq1_9] ++ b9_8) wx)
  case first =>
    have S1 : Sep w ([] ++ b9_8) (w8) := by rw [Hb9_8.out]; exact S.out
    clear S
    refine regionP 9 4 (E := [emptyR, emptyR]) (base := b9_8) (Sep.putE (Sep.putE S1)) ?_
    clear S1
    refine quietP ?_
    simp only [Act.put, pa]; try dsimp only [List.set]
    refine quietP (hy := fun E Wx hSw => by ((refine and3 (Cb9_8_0.out _ _ hSw) fun u0 u1 u2 => ?_); go_simp; exact ⟨rfl, hSw⟩)) (h := ?_)
    simp only [Act.put, pa]; try dsimp only [List.set]
    iterate 2 (refine quietP ?_; simp only [Act.put, pa]; try dsimp only [List.set])
    refine quietP (hy := fun E Wx hSw => by (go_simp; exact symCall (K9_4.out _ _ hSw))) (h := ?_)
    simp only [Act.put, pa]; try dsimp only [List.set]
    refine quietP (hy := fun E Wx hSw => by (go_simp; exact symCall (K9_5.out _ _ hSw))) (h := ?_)
    simp only [Act.put, pa]; try dsimp only [List.set]
    iterate 3 (refine quietP ?_; simp only [Act.put, pa]; try dsimp only [List.set])
    refine endP ?_
    refine readyS [9, 10] ?_
    refine allocS 0 rfl (fun q => .pointer (some ⟨q, 0, none⟩)) (.cells #[.int .i64 0, .int .i64 0, .string ⟨#[]⟩] 29) (h1 := fun Wx => by go_simp) (h2 := fun qa91 => ?_) (hs := ?_)
    · simp only [Act.put, pa]; try dsimp only [List.set]
      try simp only [List.set_cons_zero, List.set_cons_succ]
      refine readyS [10] ?_
      refine allocS 1 rfl (fun q => .pointer (some ⟨q, 0, none⟩)) (.cells #[.string ⟨#[]⟩, .int .i64 0, .int .i64 0, .string ⟨#[]⟩, .bool false] 38) (h1 := fun Wx => by go_simp) (h2 := fun qe92 => ?_) (hs := nilS)
      simp only [Act.put, pa]; try dsimp only [List.set]
      try simp only [List.set_cons_zero, List.set_cons_succ]
      refine readyS [11] ?_
      refine detS undef [boxW qa91 3 0 (tx.extract 0 p), boxE qe92] (h1 := fun Wx hSw => by (have hz := hSw.box (b := qa91) (o := objZ) 0 rfl; refine useZ3 hz fun z0 z1 z2 y0 y1 y2 => ?_; go_simp; exact ⟨rfl, hSw.set3 0 rfl (.int .i64 3) (.int .i64 0) (.string (tx.extract 0 p))⟩)) (h2 := ?_) (hs := nilS)
      simp only [Act.put, pa]; try dsimp only [List.set]
      refine readyS [12] ?_
      refine detS undef [boxW qa91 3 0 (tx.extract 0 p), boxE qe92] (h1 := fun Wx hSw => by (have hz := hSw.box (b := qe92) (o := objE) 1 rfl; refine useZ5 hz fun z0 z1 z2 z3 z4 y0 y1 y2 y3 y4 => ?_; go_simp; exact ⟨rfl, hSw.set5 1 rfl (.string ⟨#[]⟩) (.int .i64 0) (.int .i64 0) (.string ⟨#[]⟩) (.bool false)⟩)) (h2 := ?_) (hs := nilS)
      simp only [Act.put, pa]; try dsimp only [List.set]
      refine doneS (h := fun w10 S => ?_)
      go_wp2_with fail
      as_aux_lemma => (go_meet; exact ⟨_, _, rfl, rfl, S⟩)
    refine allocS 1 rfl (fun q => .pointer (some ⟨q, 0, none⟩)) (.cells #[.string ⟨#[]⟩, .int .i64 0, .int .i64 0, .string ⟨#[]⟩, .bool false] 38) (h1 := fun Wx => by go_simp) (h2 := fun qe95 => ?_) (hs := ?_)
    · simp only [Act.put, pa]; try dsimp only [List.set]
      try simp only [List.set_cons_zero, List.set_cons_succ]
      refine readyS [9] ?_
      refine allocS 0 rfl (fun q => .pointer (some ⟨q, 0, none⟩)) (.cells #[.int .i64 0, .int .i64 0, .string ⟨#[]⟩] 29) (h1 := fun Wx => by go_simp) (h2 := fun qa96 => ?_) (hs := nilS)
      simp only [Act.put, pa]; try dsimp only [List.set]
      try simp only [List.set_cons_zero, List.set_cons_succ]
      refine readyS [11] ?_
      refine detS undef [boxW qa96 3 0 (tx.extract 0 p), boxE qe95] (h1 := fun Wx hSw => by (have hz := hSw.box (b := qa96) (o := objZ) 0 rfl; refine useZ3 hz fun z0 z1 z2 y0 y1 y2 => ?_; go_simp; exact ⟨rfl, hSw.set3 0 rfl (.int .i64 3) (.int .i64 0) (.string (tx.extract 0 p))⟩)) (h2 := ?_) (hs := nilS)
      simp only [Act.put, pa]; try dsimp only [List.set]
      refine readyS [12] ?_
      refine detS undef [boxW qa96 3 0 (tx.extract 0 p), boxE qe95] (h1 := fun Wx hSw => by (have hz := hSw.box (b := qe95) (o := objE) 1 rfl; refine useZ5 hz fun z0 z1 z2 z3 z4 y0 y1 y2 y3 y4 => ?_; go_simp; exact ⟨rfl, hSw.set5 1 rfl (.string ⟨#[]⟩) (.int .i64 0) (.int .i64 0) (.string ⟨#[]⟩) (.bool false)⟩)) (h2 := ?_) (hs := nilS)
      simp only [Act.put, pa]; try dsimp only [List.set]
      refine doneS (h := fun w10 S => ?_)
      go_wp2_with fail
      as_aux_lemma => (go_meet; exact ⟨_, _, rfl, rfl, S⟩)
    exact nilS
  case rest =>
    obtain ⟨qq0_9, qq1_9, rfl, rfl, S⟩ := hcut
    replace S : Sep w (boxW qq0_9 3 0 (tx.extract 0 p) :: boxE qq1_9 :: boxW qv1 3 0 tx :: heapR h (HX []) :: []) wc := by rw [Hb9_8.out] at S; exact S
    clear Hb9_8 Kb9_8 K9_4 K9_5 Cb9_8_0
    refine named (boxW qq0_9 3 0 (tx.extract 0 p) :: boxE qq1_9 :: boxW qv1 3 0 tx :: heapR h (HX []) :: [] : List Res) fun b10_10 hb10_10 => ?_
    have Hb10_10 := Lib.hid hb10_10
    have Kb10_10 : Hid (∀ W (Q : List Res), Sep w (Q ++ b10_10) W → True) := Lib.hid fun W Q T => by
      rw [hb10_10] at T
      trivial
    have Cb10_10_0 : Hid (∀ W (Q : List Res), Sep w (Q ++ b10_10) W → W.cell? ⟨qv1, 0, none⟩ = some (.int .i64 3) ∧ W.cell? ⟨qv1, 1, none⟩ = some (.int .i64 0) ∧ W.cell? ⟨qv1, 2, none⟩ = some (.string tx)) := Lib.hid fun W Q T => by
      rw [hb10_10] at T
      have i0 := T.box (b := qv1) (o := objW 3 0 tx) (Q.length + 2) (by rw [List.getElem?_append_right (by omega), Nat.add_sub_cancel_left]; rfl)
      exact ⟨cellAt i0 0 rfl, cellAt i0 1 rfl, cellAt i0 2 rfl⟩
    have K10_3 : Hid (∀ W (Q : List Res), Sep w (Q ++ b10_10) W → Calls Tryz.prog 16 #[.int .i64 at_] W fun e W' => e = .returned (.agg #[.int .i64 2, .int .i64 at_, .string ⟨#[]⟩]) ∧ Sep w (Q ++ b10_10) W') := Lib.hid fun W Q T => by
      exact (lnum_ok W at_).mono fun e W' ⟨e1, e2⟩ => ⟨e1, T.later e2⟩
    have K10_5 : Hid (∀ W (Q : List Res), Sep w (Q ++ b10_10) W → Calls Tryz.prog 59 #[.pointer (some ⟨h, 0, none⟩), .agg #[.int .i64 3, .int .i64 0, .string tx], .agg #[.int .i64 2, .int .i64 at_, .string ⟨#[]⟩], .agg #[.int .i64 0, .int .i64 0, .string ⟨#[]⟩]] W fun e W' => e = .returned (.tuple #[.agg #[.int .i64 3, .int .i64 0, .string (tx.extract p tx.size)], excZ]) ∧ Sep w (Q ++ b10_10) W') := Lib.hid fun W Q T => by
      rw [Hb10_10.out] at T ⊢
      exact sl_strs T (Q.length + 3) (by rw [List.getElem?_append_right (by omega), Nat.add_sub_cancel_left]; rfl) (vS tx HTM.out) (vI at_ HAT.out) V.zero rfl at_ (tx.size : Nat) rfl rfl HAT.out (okI_of (by have := HZ8.out; omega)) rfl rfl (tx.extract p tx.size) (by have h := high_end tx.size at_ (by have := HZ8.out; omega) HAT.out; show tx.extract (lowN tx.size at_) (highN tx.size at_ tx.size) = _; rw [h, HPP.out])
    replace S := Lib.hid S
    clear hb10_10
    go_upto_region 10 with fail
    go_cut [15, 16] (fun s15 s16 wx => ∃ qq0_10 qq1_10, s15 = .pointer (some ⟨qq0_10, 0, none⟩) ∧ s16 = .pointer (some ⟨qq1_10, 0, none⟩) ∧ Sep w ([boxW qq0_10 3 0 (tx.extract p tx.size), boxE qq1_10] ++ b10_10) wx)
    case first =>
      have S1 : Sep w ([] ++ b10_10) (wc) := by rw [Hb10_10.out]; exact S.out
      clear S
      refine regionP 9 4 (E := [emptyR, emptyR]) (base := b10_10) (Sep.putE (Sep.putE S1)) ?_
      clear S1
      refine quietP ?_
      simp only [Act.put, pa]; try dsimp only [List.set]
      refine quietP (hy := fun E Wx hSw => by ((refine and3 (Cb10_10_0.out _ _ hSw) fun u0 u1 u2 => ?_); go_simp; exact ⟨rfl, hSw⟩)) (h := ?_)
      simp only [Act.put, pa]; try dsimp only [List.set]
      refine quietP ?_
      simp only [Act.put, pa]; try dsimp only [List.set]
      refine quietP (hy := fun E Wx hSw => by (go_simp; exact symCall (K10_3.out _ _ hSw))) (h := ?_)
      simp only [Act.put, pa]; try dsimp only [List.set]
      refine quietP ?_
      simp only [Act.put, pa]; try dsimp only [List.set]
      refine quietP (hy := fun E Wx hSw => by (go_simp; exact symCall (K10_5.out _ _ hSw))) (h := ?_)
      simp only [Act.put, pa]; try dsimp only [List.set]
      iterate 3 (refine quietP ?_; simp only [Act.put, pa]; try dsimp only [List.set])
      refine endP ?_
      refine readyS [9, 10] ?_
      refine allocS 0 rfl (fun q => .pointer (some ⟨q, 0, none⟩)) (.cells #[.int .i64 0, .int .i64 0, .string ⟨#[]⟩] 29) (h1 := fun Wx => by go_simp) (h2 := fun qa101 => ?_) (hs := ?_)
      · simp only [Act.put, pa]; try dsimp only [List.set]
        try simp only [List.set_cons_zero, List.set_cons_succ]
        refine readyS [10] ?_
        refine allocS 1 rfl (fun q => .pointer (some ⟨q, 0, none⟩)) (.cells #[.string ⟨#[]⟩, .int .i64 0, .int .i64 0, .string ⟨#[]⟩, .bool false] 38) (h1 := fun Wx => by go_simp) (h2 := fun qe102 => ?_) (hs := nilS)
        simp only [Act.put, pa]; try dsimp only [List.set]
        try simp only [List.set_cons_zero, List.set_cons_succ]
        refine readyS [11] ?_
        refine detS undef [boxW qa101 3 0 (tx.extract p tx.size), boxE qe102] (h1 := fun Wx hSw => by (have hz := hSw.box (b := qa101) (o := objZ) 0 rfl; refine useZ3 hz fun z0 z1 z2 y0 y1 y2 => ?_; go_simp; exact ⟨rfl, hSw.set3 0 rfl (.int .i64 3) (.int .i64 0) (.string (tx.extract p tx.size))⟩)) (h2 := ?_) (hs := nilS)
        simp only [Act.put, pa]; try dsimp only [List.set]
        refine readyS [12] ?_
        refine detS undef [boxW qa101 3 0 (tx.extract p tx.size), boxE qe102] (h1 := fun Wx hSw => by (have hz := hSw.box (b := qe102) (o := objE) 1 rfl; refine useZ5 hz fun z0 z1 z2 z3 z4 y0 y1 y2 y3 y4 => ?_; go_simp; exact ⟨rfl, hSw.set5 1 rfl (.string ⟨#[]⟩) (.int .i64 0) (.int .i64 0) (.string ⟨#[]⟩) (.bool false)⟩)) (h2 := ?_) (hs := nilS)
        simp only [Act.put, pa]; try dsimp only [List.set]
        refine doneS (h := fun w12 S => ?_)
        go_wp2_with fail
        as_aux_lemma => (go_meet; exact ⟨_, _, rfl, rfl, S⟩)
      refine allocS 1 rfl (fun q => .pointer (some ⟨q, 0, none⟩)) (.cells #[.string ⟨#[]⟩, .int .i64 0, .int .i64 0, .string ⟨#[]⟩, .bool false] 38) (h1 := fun Wx => by go_simp) (h2 := fun qe105 => ?_) (hs := ?_)
      · simp only [Act.put, pa]; try dsimp only [List.set]
        try simp only [List.set_cons_zero, List.set_cons_succ]
        refine readyS [9] ?_
        refine allocS 0 rfl (fun q => .pointer (some ⟨q, 0, none⟩)) (.cells #[.int .i64 0, .int .i64 0, .string ⟨#[]⟩] 29) (h1 := fun Wx => by go_simp) (h2 := fun qa106 => ?_) (hs := nilS)
        simp only [Act.put, pa]; try dsimp only [List.set]
        try simp only [List.set_cons_zero, List.set_cons_succ]
        refine readyS [11] ?_
        refine detS undef [boxW qa106 3 0 (tx.extract p tx.size), boxE qe105] (h1 := fun Wx hSw => by (have hz := hSw.box (b := qa106) (o := objZ) 0 rfl; refine useZ3 hz fun z0 z1 z2 y0 y1 y2 => ?_; go_simp; exact ⟨rfl, hSw.set3 0 rfl (.int .i64 3) (.int .i64 0) (.string (tx.extract p tx.size))⟩)) (h2 := ?_) (hs := nilS)
        simp only [Act.put, pa]; try dsimp only [List.set]
        refine readyS [12] ?_
        refine detS undef [boxW qa106 3 0 (tx.extract p tx.size), boxE qe105] (h1 := fun Wx hSw => by (have hz := hSw.box (b := qe105) (o := objE) 1 rfl; refine useZ5 hz fun z0 z1 z2 z3 z4 y0 y1 y2 y3 y4 => ?_; go_simp; exact ⟨rfl, hSw.set5 1 rfl (.string ⟨#[]⟩) (.int .i64 0) (.int .i64 0) (.string ⟨#[]⟩) (.bool false)⟩)) (h2 := ?_) (hs := nilS)
        simp only [Act.put, pa]; try dsimp only [List.set]
        refine doneS (h := fun w12 S => ?_)
        go_wp2_with fail
        as_aux_lemma => (go_meet; exact ⟨_, _, rfl, rfl, S⟩)
      exact nilS
    case rest =>
      obtain ⟨qq0_10, qq1_10, rfl, rfl, S⟩ := hcut
      replace S : Sep w (boxW qq0_10 3 0 (tx.extract p tx.size) :: boxE qq1_10 :: boxW qq0_9 3 0 (tx.extract 0 p) :: boxE qq1_9 :: boxW qv1 3 0 tx :: heapR h (HX []) :: []) wc := by rw [Hb10_10.out] at S; exact S
      clear Hb10_10 Kb10_10 K10_3 K10_5 Cb10_10_0
      have HTA : Hid ((tx.extract 0 p).size ≤ maxLen) := Lib.hid (by rw [ByteArray.size_extract]; have := HTM.out; omega)
      have HTB : Hid ((tx.extract p tx.size).size ≤ maxLen) := Lib.hid (by rw [ByteArray.size_extract]; have := HTM.out; omega)
      refine named (boxW qq0_10 3 0 (tx.extract p tx.size) :: boxE qq1_10 :: boxW qq0_9 3 0 (tx.extract 0 p) :: boxE qq1_9 :: boxW qv1 3 0 tx :: heapR h (HX []) :: [] : List Res) fun b11_12 hb11_12 => ?_
      have Hb11_12 := Lib.hid hb11_12
      have Kb11_12 : Hid (∀ W (Q : List Res), Sep w (Q ++ b11_12) W → True) := Lib.hid fun W Q T => by
        rw [hb11_12] at T
        trivial
      have Cb11_12_0 : Hid (∀ W (Q : List Res), Sep w (Q ++ b11_12) W → W.cell? ⟨qq0_10, 0, none⟩ = some (.int .i64 3) ∧ W.cell? ⟨qq0_10, 1, none⟩ = some (.int .i64 0) ∧ W.cell? ⟨qq0_10, 2, none⟩ = some (.string (tx.extract p tx.size))) := Lib.hid fun W Q T => by
        rw [hb11_12] at T
        have i0 := T.box (b := qq0_10) (o := objW 3 0 (tx.extract p tx.size)) (Q.length + 0) (by rw [List.getElem?_append_right (by omega), Nat.add_sub_cancel_left]; rfl)
        exact ⟨cellAt i0 0 rfl, cellAt i0 1 rfl, cellAt i0 2 rfl⟩
      have Cb11_12_1 : Hid (∀ W (Q : List Res), Sep w (Q ++ b11_12) W → W.cell? ⟨qq0_9, 0, none⟩ = some (.int .i64 3) ∧ W.cell? ⟨qq0_9, 1, none⟩ = some (.int .i64 0) ∧ W.cell? ⟨qq0_9, 2, none⟩ = some (.string (tx.extract 0 p))) := Lib.hid fun W Q T => by
        rw [hb11_12] at T
        have i0 := T.box (b := qq0_9) (o := objW 3 0 (tx.extract 0 p)) (Q.length + 2) (by rw [List.getElem?_append_right (by omega), Nat.add_sub_cancel_left]; rfl)
        exact ⟨cellAt i0 0 rfl, cellAt i0 1 rfl, cellAt i0 2 rfl⟩
      have K11_3 : Hid (∀ W (Q : List Res), Sep w (Q ++ b11_12) W → Calls Tryz.prog 23 #[.pointer (some ⟨h, 0, none⟩), .string ⟨#[43]⟩, .agg #[.int .i64 3, .int .i64 0, .string (tx.extract 0 p)], .agg #[.int .i64 3, .int .i64 0, .string (tx.extract p tx.size)]] W fun e W' => e = .returned (.tuple #[.agg #[.int .i64 3, .int .i64 0, .string tx], excZ]) ∧ Sep w (Q ++ b11_12) W') := Lib.hid fun W Q T => by
        rw [Hb11_12.out] at T ⊢
        exact (by have hh := bin_add_str (h := h) T (vS (tx.extract 0 p) HTA.out) (vS (tx.extract p tx.size) HTB.out) rfl rfl (by show (tx.extract 0 p).size + (tx.extract p tx.size).size ≤ 65536; rw [ByteArray.size_extract, ByteArray.size_extract]; have := HZ8.out; omega); rw [show (vS (tx.extract 0 p) HTA.out).s ++ (vS (tx.extract p tx.size) HTB.out).s = tx from strCut tx p HPN.out] at hh; exact hh)
      replace S := Lib.hid S
      clear hb11_12
      go_upto_region 11 with fail
      have S1 : Sep w ([] ++ b11_12) (wc) := by rw [Hb11_12.out]; exact S.out
      clear S
      refine regionL (E := [emptyR, emptyR]) (base := b11_12) (Sep.putE (Sep.putE S1)) ?_
      clear S1
      refine quietL ?_
      simp only [Act.put, pa]; try dsimp only [List.set]
      refine quietL (hy := fun E Wx hSw => by ((refine and3 (Cb11_12_1.out _ _ hSw) fun u0 u1 u2 => ?_); go_simp; exact ⟨rfl, hSw⟩)) (h := ?_)
      simp only [Act.put, pa]; try dsimp only [List.set]
      refine quietL (hy := fun E Wx hSw => by ((refine and3 (Cb11_12_0.out _ _ hSw) fun u0 u1 u2 => ?_); go_simp; exact ⟨rfl, hSw⟩)) (h := ?_)
      simp only [Act.put, pa]; try dsimp only [List.set]
      refine quietL (hy := fun E Wx hSw => by (go_simp; exact symCall (K11_3.out _ _ hSw))) (h := ?_)
      simp only [Act.put, pa]; try dsimp only [List.set]
      iterate 3 (refine quietL ?_; simp only [Act.put, pa]; try dsimp only [List.set])
      refine allocL 0 rfl (fun q => .pointer (some ⟨q, 0, none⟩)) (.cells #[.int .i64 0, .int .i64 0, .string ⟨#[]⟩] 29) (h1 := fun Wx => by go_simp) (h2 := fun qa111 => ?_)
      simp only [Act.put, pa]; try dsimp only [List.set]
      try simp only [List.set_cons_zero, List.set_cons_succ]
      refine allocL 1 rfl (fun q => .pointer (some ⟨q, 0, none⟩)) (.cells #[.string ⟨#[]⟩, .int .i64 0, .int .i64 0, .string ⟨#[]⟩, .bool false] 38) (h1 := fun Wx => by go_simp) (h2 := fun qe112 => ?_)
      simp only [Act.put, pa]; try dsimp only [List.set]
      try simp only [List.set_cons_zero, List.set_cons_succ]
      refine detL undef [boxW qa111 3 0 tx, boxE qe112] (h1 := fun Wx hSw => by (have hz := hSw.box (b := qa111) (o := objZ) 0 rfl; refine useZ3 hz fun z0 z1 z2 y0 y1 y2 => ?_; go_simp; exact ⟨rfl, hSw.set3 0 rfl (.int .i64 3) (.int .i64 0) (.string tx)⟩)) (h2 := ?_)
      simp only [Act.put, pa]; try dsimp only [List.set]
      refine detL undef [boxW qa111 3 0 tx, boxE qe112] (h1 := fun Wx hSw => by (have hz := hSw.box (b := qe112) (o := objE) 1 rfl; refine useZ5 hz fun z0 z1 z2 z3 z4 y0 y1 y2 y3 y4 => ?_; go_simp; exact ⟨rfl, hSw.set5 1 rfl (.string ⟨#[]⟩) (.int .i64 0) (.int .i64 0) (.string ⟨#[]⟩) (.bool false)⟩)) (h2 := ?_)
      simp only [Act.put, pa]; try dsimp only [List.set]
      refine doneL (h := fun w14 S => ?_)
      replace S : Sep w (boxW qa111 3 0 tx :: boxE qe112 :: boxW qq0_10 3 0 (tx.extract p tx.size) :: boxE qq1_10 :: boxW qq0_9 3 0 (tx.extract 0 p) :: boxE qq1_9 :: boxW qv1 3 0 tx :: heapR h (HX []) :: []) w14 := by rw [Hb11_12.out] at S; exact S
      clear Hb11_12 Kb11_12 K11_3 Cb11_12_0 Cb11_12_1
      refine named (boxW qa111 3 0 tx :: boxE qe112 :: boxW qq0_10 3 0 (tx.extract p tx.size) :: boxE qq1_10 :: boxW qq0_9 3 0 (tx.extract 0 p) :: boxE qq1_9 :: boxW qv1 3 0 tx :: heapR h (HX []) :: [] : List Res) fun b12_14 hb12_14 => ?_
      have Hb12_14 := Lib.hid hb12_14
      have Kb12_14 : Hid (∀ W (Q : List Res), Sep w (Q ++ b12_14) W → True) := Lib.hid fun W Q T => by
        rw [hb12_14] at T
        trivial
      have Cb12_14_0 : Hid (∀ W (Q : List Res), Sep w (Q ++ b12_14) W → W.cell? ⟨qv1, 0, none⟩ = some (.int .i64 3) ∧ W.cell? ⟨qv1, 1, none⟩ = some (.int .i64 0) ∧ W.cell? ⟨qv1, 2, none⟩ = some (.string tx)) := Lib.hid fun W Q T => by
        rw [hb12_14] at T
        have i0 := T.box (b := qv1) (o := objW 3 0 tx) (Q.length + 6) (by rw [List.getElem?_append_right (by omega), Nat.add_sub_cancel_left]; rfl)
        exact ⟨cellAt i0 0 rfl, cellAt i0 1 rfl, cellAt i0 2 rfl⟩
      have K12_2 : Hid (∀ W (Q : List Res), Sep w (Q ++ b12_14) W → Calls Tryz.prog 16 #[.int .i64 (-9223372036854775808)] W fun e W' => e = .returned (.agg #[.int .i64 2, .int .i64 (-9223372036854775808), .string ⟨#[]⟩]) ∧ Sep w (Q ++ b12_14) W') := Lib.hid fun W Q T => by
        exact (lnum_ok W (-9223372036854775808)).mono fun e W' ⟨e1, e2⟩ => ⟨e1, T.later e2⟩
      have K12_3 : Hid (∀ W (Q : List Res), Sep w (Q ++ b12_14) W → Calls Tryz.prog 16 #[.int .i64 9223372036854775807] W fun e W' => e = .returned (.agg #[.int .i64 2, .int .i64 9223372036854775807, .string ⟨#[]⟩]) ∧ Sep w (Q ++ b12_14) W') := Lib.hid fun W Q T => by
        exact (lnum_ok W 9223372036854775807).mono fun e W' ⟨e1, e2⟩ => ⟨e1, T.later e2⟩
      have K12_4 : Hid (∀ W (Q : List Res), Sep w (Q ++ b12_14) W → Calls Tryz.prog 59 #[.pointer (some ⟨h, 0, none⟩), .agg #[.int .i64 3, .int .i64 0, .string tx], .agg #[.int .i64 2, .int .i64 (-9223372036854775808), .string ⟨#[]⟩], .agg #[.int .i64 2, .int .i64 9223372036854775807, .string ⟨#[]⟩]] W fun e W' => e = .returned (.tuple #[.agg #[.int .i64 3, .int .i64 0, .string (tx)], excZ]) ∧ Sep w (Q ++ b12_14) W') := Lib.hid fun W Q T => by
        rw [Hb12_14.out] at T ⊢
        exact sl_strs T (Q.length + 7) (by rw [List.getElem?_append_right (by omega), Nat.add_sub_cancel_left]; rfl) (vS tx HTM.out) (vI (-9223372036854775808) (by decide)) (vI 9223372036854775807 (by decide)) rfl (-9223372036854775808) 9223372036854775807 rfl rfl (by decide) (by decide) rfl rfl (tx) (by have h := high_all tx.size (by have := HZ8.out; omega); show tx.extract (lowN tx.size (-9223372036854775808)) (highN tx.size (-9223372036854775808) 9223372036854775807) = _; rw [h.1, h.2]; simp)
      replace S := Lib.hid S
      clear hb12_14
      go_upto_region 12 with fail
      go_cut [19, 20] (fun s19 s20 wx => ∃ qq0_12 qq1_12, s19 = .pointer (some ⟨qq0_12, 0, none⟩) ∧ s20 = .pointer (some ⟨qq1_12, 0, none⟩) ∧ Sep w ([boxW qq0_12 3 0 (tx), boxE qq1_12] ++ b12_14) wx)
      case first =>
        have S1 : Sep w ([] ++ b12_14) (w14) := by rw [Hb12_14.out]; exact S.out
        clear S
        refine regionP 8 4 (E := [emptyR, emptyR]) (base := b12_14) (Sep.putE (Sep.putE S1)) ?_
        clear S1
        refine quietP ?_
        simp only [Act.put, pa]; try dsimp only [List.set]
        refine quietP (hy := fun E Wx hSw => by ((refine and3 (Cb12_14_0.out _ _ hSw) fun u0 u1 u2 => ?_); go_simp; exact ⟨rfl, hSw⟩)) (h := ?_)
        simp only [Act.put, pa]; try dsimp only [List.set]
        refine quietP (hy := fun E Wx hSw => by (go_simp; exact symCall (K12_2.out _ _ hSw))) (h := ?_)
        simp only [Act.put, pa]; try dsimp only [List.set]
        refine quietP (hy := fun E Wx hSw => by (go_simp; exact symCall (K12_3.out _ _ hSw))) (h := ?_)
        simp only [Act.put, pa]; try dsimp only [List.set]
        refine quietP (hy := fun E Wx hSw => by (go_simp; exact symCall (K12_4.out _ _ hSw))) (h := ?_)
        simp only [Act.put, pa]; try dsimp only [List.set]
        iterate 3 (refine quietP ?_; simp only [Act.put, pa]; try dsimp only [List.set])
        refine endP ?_
        refine readyS [8, 9] ?_
        refine allocS 0 rfl (fun q => .pointer (some ⟨q, 0, none⟩)) (.cells #[.int .i64 0, .int .i64 0, .string ⟨#[]⟩] 29) (h1 := fun Wx => by go_simp) (h2 := fun qa121 => ?_) (hs := ?_)
        · simp only [Act.put, pa]; try dsimp only [List.set]
          try simp only [List.set_cons_zero, List.set_cons_succ]
          refine readyS [9] ?_
          refine allocS 1 rfl (fun q => .pointer (some ⟨q, 0, none⟩)) (.cells #[.string ⟨#[]⟩, .int .i64 0, .int .i64 0, .string ⟨#[]⟩, .bool false] 38) (h1 := fun Wx => by go_simp) (h2 := fun qe122 => ?_) (hs := nilS)
          simp only [Act.put, pa]; try dsimp only [List.set]
          try simp only [List.set_cons_zero, List.set_cons_succ]
          refine readyS [10] ?_
          refine detS undef [boxW qa121 3 0 (tx), boxE qe122] (h1 := fun Wx hSw => by (have hz := hSw.box (b := qa121) (o := objZ) 0 rfl; refine useZ3 hz fun z0 z1 z2 y0 y1 y2 => ?_; go_simp; exact ⟨rfl, hSw.set3 0 rfl (.int .i64 3) (.int .i64 0) (.string (tx))⟩)) (h2 := ?_) (hs := nilS)
          simp only [Act.put, pa]; try dsimp only [List.set]
          refine readyS [11] ?_
          refine detS undef [boxW qa121 3 0 (tx), boxE qe122] (h1 := fun Wx hSw => by (have hz := hSw.box (b := qe122) (o := objE) 1 rfl; refine useZ5 hz fun z0 z1 z2 z3 z4 y0 y1 y2 y3 y4 => ?_; go_simp; exact ⟨rfl, hSw.set5 1 rfl (.string ⟨#[]⟩) (.int .i64 0) (.int .i64 0) (.string ⟨#[]⟩) (.bool false)⟩)) (h2 := ?_) (hs := nilS)
          simp only [Act.put, pa]; try dsimp only [List.set]
          refine doneS (h := fun w16 S => ?_)
          go_wp2_with fail
          as_aux_lemma => (go_meet; exact ⟨_, _, rfl, rfl, S⟩)
        refine allocS 1 rfl (fun q => .pointer (some ⟨q, 0, none⟩)) (.cells #[.string ⟨#[]⟩, .int .i64 0, .int .i64 0, .string ⟨#[]⟩, .bool false] 38) (h1 := fun Wx => by go_simp) (h2 := fun qe125 => ?_) (hs := ?_)
        · simp only [Act.put, pa]; try dsimp only [List.set]
          try simp only [List.set_cons_zero, List.set_cons_succ]
          refine readyS [8] ?_
          refine allocS 0 rfl (fun q => .pointer (some ⟨q, 0, none⟩)) (.cells #[.int .i64 0, .int .i64 0, .string ⟨#[]⟩] 29) (h1 := fun Wx => by go_simp) (h2 := fun qa126 => ?_) (hs := nilS)
          simp only [Act.put, pa]; try dsimp only [List.set]
          try simp only [List.set_cons_zero, List.set_cons_succ]
          refine readyS [10] ?_
          refine detS undef [boxW qa126 3 0 (tx), boxE qe125] (h1 := fun Wx hSw => by (have hz := hSw.box (b := qa126) (o := objZ) 0 rfl; refine useZ3 hz fun z0 z1 z2 y0 y1 y2 => ?_; go_simp; exact ⟨rfl, hSw.set3 0 rfl (.int .i64 3) (.int .i64 0) (.string (tx))⟩)) (h2 := ?_) (hs := nilS)
          simp only [Act.put, pa]; try dsimp only [List.set]
          refine readyS [11] ?_
          refine detS undef [boxW qa126 3 0 (tx), boxE qe125] (h1 := fun Wx hSw => by (have hz := hSw.box (b := qe125) (o := objE) 1 rfl; refine useZ5 hz fun z0 z1 z2 z3 z4 y0 y1 y2 y3 y4 => ?_; go_simp; exact ⟨rfl, hSw.set5 1 rfl (.string ⟨#[]⟩) (.int .i64 0) (.int .i64 0) (.string ⟨#[]⟩) (.bool false)⟩)) (h2 := ?_) (hs := nilS)
          simp only [Act.put, pa]; try dsimp only [List.set]
          refine doneS (h := fun w16 S => ?_)
          go_wp2_with fail
          as_aux_lemma => (go_meet; exact ⟨_, _, rfl, rfl, S⟩)
        exact nilS
      case rest =>
        obtain ⟨qq0_12, qq1_12, rfl, rfl, S⟩ := hcut
        replace S : Sep w (boxW qq0_12 3 0 (tx) :: boxE qq1_12 :: boxW qa111 3 0 tx :: boxE qe112 :: boxW qq0_10 3 0 (tx.extract p tx.size) :: boxE qq1_10 :: boxW qq0_9 3 0 (tx.extract 0 p) :: boxE qq1_9 :: boxW qv1 3 0 tx :: heapR h (HX []) :: []) wc := by rw [Hb12_14.out] at S; exact S
        clear Hb12_14 Kb12_14 K12_2 K12_3 K12_4 Cb12_14_0
        refine named (boxW qq0_12 3 0 (tx) :: boxE qq1_12 :: boxW qa111 3 0 tx :: boxE qe112 :: boxW qq0_10 3 0 (tx.extract p tx.size) :: boxE qq1_10 :: boxW qq0_9 3 0 (tx.extract 0 p) :: boxE qq1_9 :: boxW qv1 3 0 tx :: heapR h (HX []) :: [] : List Res) fun b13_16 hb13_16 => ?_
        have Hb13_16 := Lib.hid hb13_16
        have Kb13_16 : Hid (∀ W (Q : List Res), Sep w (Q ++ b13_16) W → True) := Lib.hid fun W Q T => by
          rw [hb13_16] at T
          trivial
        have Cb13_16_0 : Hid (∀ W (Q : List Res), Sep w (Q ++ b13_16) W → W.cell? ⟨qa111, 0, none⟩ = some (.int .i64 3) ∧ W.cell? ⟨qa111, 1, none⟩ = some (.int .i64 0) ∧ W.cell? ⟨qa111, 2, none⟩ = some (.string tx)) := Lib.hid fun W Q T => by
          rw [hb13_16] at T
          have i0 := T.box (b := qa111) (o := objW 3 0 tx) (Q.length + 2) (by rw [List.getElem?_append_right (by omega), Nat.add_sub_cancel_left]; rfl)
          exact ⟨cellAt i0 0 rfl, cellAt i0 1 rfl, cellAt i0 2 rfl⟩
        have Cb13_16_1 : Hid (∀ W (Q : List Res), Sep w (Q ++ b13_16) W → W.cell? ⟨qv1, 0, none⟩ = some (.int .i64 3) ∧ W.cell? ⟨qv1, 1, none⟩ = some (.int .i64 0) ∧ W.cell? ⟨qv1, 2, none⟩ = some (.string tx)) := Lib.hid fun W Q T => by
          rw [hb13_16] at T
          have i0 := T.box (b := qv1) (o := objW 3 0 tx) (Q.length + 8) (by rw [List.getElem?_append_right (by omega), Nat.add_sub_cancel_left]; rfl)
          exact ⟨cellAt i0 0 rfl, cellAt i0 1 rfl, cellAt i0 2 rfl⟩
        have K13_3 : Hid (∀ W (Q : List Res), Sep w (Q ++ b13_16) W → Calls Tryz.prog 29 #[.pointer (some ⟨h, 0, none⟩), .agg #[.int .i64 3, .int .i64 0, .string tx], .agg #[.int .i64 3, .int .i64 0, .string tx]] W fun e W' => e = .returned (.tuple #[.bool true, excZ]) ∧ Sep w (Q ++ b13_16) W') := Lib.hid fun W Q T => by
          rw [Hb13_16.out] at T ⊢
          exact (by have hh := sameOp_ok (HG0.out.good (by simp)) (by decide) (Q.length + 9) T (by rw [List.getElem?_append_right (by omega), Nat.add_sub_cancel_left]; rfl) (vS tx HTM.out) (vS tx HTM.out); rw [HeapM.same_no _ _ _ _ (by show ¬ (3 : Int) = 4; decide) (by show ¬ (3 : Int) = 4; decide), decide_eq_true rfl] at hh; exact hh)
        replace S := Lib.hid S
        clear hb13_16
        go_upto_region 13 with fail
        have S1 : Sep w ([] ++ b13_16) (wc) := by rw [Hb13_16.out]; exact S.out
        clear S
        refine regionL (E := [emptyR]) (base := b13_16) (Sep.putE S1) ?_
        clear S1
        refine quietL ?_
        simp only [Act.put, pa]; try dsimp only [List.set]
        refine quietL (hy := fun E Wx hSw => by ((refine and3 (Cb13_16_0.out _ _ hSw) fun u0 u1 u2 => ?_); go_simp; exact ⟨rfl, hSw⟩)) (h := ?_)
        simp only [Act.put, pa]; try dsimp only [List.set]
        refine quietL (hy := fun E Wx hSw => by ((refine and3 (Cb13_16_1.out _ _ hSw) fun u0 u1 u2 => ?_); go_simp; exact ⟨rfl, hSw⟩)) (h := ?_)
        simp only [Act.put, pa]; try dsimp only [List.set]
        refine quietL (hy := fun E Wx hSw => by (go_simp; exact symCall (K13_3.out _ _ hSw))) (h := ?_)
        simp only [Act.put, pa]; try dsimp only [List.set]
        iterate 3 (refine quietL ?_; simp only [Act.put, pa]; try dsimp only [List.set])
        refine allocL 0 rfl (fun q => .pointer (some ⟨q, 0, none⟩)) (.cells #[.string ⟨#[]⟩, .int .i64 0, .int .i64 0, .string ⟨#[]⟩, .bool false] 38) (h1 := fun Wx => by go_simp) (h2 := fun qe131 => ?_)
        simp only [Act.put, pa]; try dsimp only [List.set]
        try simp only [List.set_cons_zero, List.set_cons_succ]
        refine quietL ?_
        simp only [Act.put, pa]; try dsimp only [List.set]
        refine detL undef [boxE qe131] (h1 := fun Wx hSw => by (have hz := hSw.box (b := qe131) (o := objE) 0 rfl; refine useZ5 hz fun z0 z1 z2 z3 z4 y0 y1 y2 y3 y4 => ?_; go_simp; exact ⟨rfl, hSw.set5 0 rfl (.string ⟨#[]⟩) (.int .i64 0) (.int .i64 0) (.string ⟨#[]⟩) (.bool false)⟩)) (h2 := ?_)
        simp only [Act.put, pa]; try dsimp only [List.set]
        refine doneL (h := fun w18 S => ?_)
        replace S : Sep w (boxE qe131 :: boxW qq0_12 3 0 (tx) :: boxE qq1_12 :: boxW qa111 3 0 tx :: boxE qe112 :: boxW qq0_10 3 0 (tx.extract p tx.size) :: boxE qq1_10 :: boxW qq0_9 3 0 (tx.extract 0 p) :: boxE qq1_9 :: boxW qv1 3 0 tx :: heapR h (HX []) :: []) w18 := by rw [Hb13_16.out] at S; exact S
        clear Hb13_16 Kb13_16 K13_3 Cb13_16_0 Cb13_16_1
        refine named (boxE qe131 :: boxW qq0_12 3 0 (tx) :: boxE qq1_12 :: boxW qa111 3 0 tx :: boxE qe112 :: boxW qq0_10 3 0 (tx.extract p tx.size) :: boxE qq1_10 :: boxW qq0_9 3 0 (tx.extract 0 p) :: boxE qq1_9 :: boxW qv1 3 0 tx :: heapR h (HX []) :: [] : List Res) fun b14_18 hb14_18 => ?_
        have Hb14_18 := Lib.hid hb14_18
        have Kb14_18 : Hid (∀ W (Q : List Res), Sep w (Q ++ b14_18) W → True) := Lib.hid fun W Q T => by
          rw [hb14_18] at T
          trivial
        have Cb14_18_0 : Hid (∀ W (Q : List Res), Sep w (Q ++ b14_18) W → W.cell? ⟨qq0_12, 0, none⟩ = some (.int .i64 3) ∧ W.cell? ⟨qq0_12, 1, none⟩ = some (.int .i64 0) ∧ W.cell? ⟨qq0_12, 2, none⟩ = some (.string (tx))) := Lib.hid fun W Q T => by
          rw [hb14_18] at T
          have i0 := T.box (b := qq0_12) (o := objW 3 0 (tx)) (Q.length + 1) (by rw [List.getElem?_append_right (by omega), Nat.add_sub_cancel_left]; rfl)
          exact ⟨cellAt i0 0 rfl, cellAt i0 1 rfl, cellAt i0 2 rfl⟩
        have Cb14_18_1 : Hid (∀ W (Q : List Res), Sep w (Q ++ b14_18) W → W.cell? ⟨qv1, 0, none⟩ = some (.int .i64 3) ∧ W.cell? ⟨qv1, 1, none⟩ = some (.int .i64 0) ∧ W.cell? ⟨qv1, 2, none⟩ = some (.string tx)) := Lib.hid fun W Q T => by
          rw [hb14_18] at T
          have i0 := T.box (b := qv1) (o := objW 3 0 tx) (Q.length + 9) (by rw [List.getElem?_append_right (by omega), Nat.add_sub_cancel_left]; rfl)
          exact ⟨cellAt i0 0 rfl, cellAt i0 1 rfl, cellAt i0 2 rfl⟩
        have K14_3 : Hid (∀ W (Q : List Res), Sep w (Q ++ b14_18) W → Calls Tryz.prog 29 #[.pointer (some ⟨h, 0, none⟩), .agg #[.int .i64 3, .int .i64 0, .string (tx)], .agg #[.int .i64 3, .int .i64 0, .string tx]] W fun e W' => e = .returned (.tuple #[.bool true, excZ]) ∧ Sep w (Q ++ b14_18) W') := Lib.hid fun W Q T => by
          rw [Hb14_18.out] at T ⊢
          exact (by have hh := sameOp_ok (HG0.out.good (by simp)) (by decide) (Q.length + 10) T (by rw [List.getElem?_append_right (by omega), Nat.add_sub_cancel_left]; rfl) (vS tx HTM.out) (vS tx HTM.out); rw [HeapM.same_no _ _ _ _ (by show ¬ (3 : Int) = 4; decide) (by show ¬ (3 : Int) = 4; decide), decide_eq_true rfl] at hh; exact hh)
        replace S := Lib.hid S
        clear hb14_18
        go_upto_region 14 with fail
        have S1 : Sep w ([] ++ b14_18) (w18) := by rw [Hb14_18.out]; exact S.out
        clear S
        refine regionL (E := [emptyR]) (base := b14_18) (Sep.putE S1) ?_
        clear S1
        refine quietL ?_
        simp only [Act.put, pa]; try dsimp only [List.set]
        refine quietL (hy := fun E Wx hSw => by ((refine and3 (Cb14_18_0.out _ _ hSw) fun u0 u1 u2 => ?_); go_simp; exact ⟨rfl, hSw⟩)) (h := ?_)
        simp only [Act.put, pa]; try dsimp only [List.set]
        refine quietL (hy := fun E Wx hSw => by ((refine and3 (Cb14_18_1.out _ _ hSw) fun u0 u1 u2 => ?_); go_simp; exact ⟨rfl, hSw⟩)) (h := ?_)
        simp only [Act.put, pa]; try dsimp only [List.set]
        refine quietL (hy := fun E Wx hSw => by (go_simp; exact symCall (K14_3.out _ _ hSw))) (h := ?_)
        simp only [Act.put, pa]; try dsimp only [List.set]
        iterate 3 (refine quietL ?_; simp only [Act.put, pa]; try dsimp only [List.set])
        refine allocL 0 rfl (fun q => .pointer (some ⟨q, 0, none⟩)) (.cells #[.string ⟨#[]⟩, .int .i64 0, .int .i64 0, .string ⟨#[]⟩, .bool false] 38) (h1 := fun Wx => by go_simp) (h2 := fun qe141 => ?_)
        simp only [Act.put, pa]; try dsimp only [List.set]
        try simp only [List.set_cons_zero, List.set_cons_succ]
        refine quietL ?_
        simp only [Act.put, pa]; try dsimp only [List.set]
        refine detL undef [boxE qe141] (h1 := fun Wx hSw => by (have hz := hSw.box (b := qe141) (o := objE) 0 rfl; refine useZ5 hz fun z0 z1 z2 z3 z4 y0 y1 y2 y3 y4 => ?_; go_simp; exact ⟨rfl, hSw.set5 0 rfl (.string ⟨#[]⟩) (.int .i64 0) (.int .i64 0) (.string ⟨#[]⟩) (.bool false)⟩)) (h2 := ?_)
        simp only [Act.put, pa]; try dsimp only [List.set]
        refine doneL (h := fun w20 S => ?_)
        replace S : Sep w (boxE qe141 :: boxE qe131 :: boxW qq0_12 3 0 (tx) :: boxE qq1_12 :: boxW qa111 3 0 tx :: boxE qe112 :: boxW qq0_10 3 0 (tx.extract p tx.size) :: boxE qq1_10 :: boxW qq0_9 3 0 (tx.extract 0 p) :: boxE qq1_9 :: boxW qv1 3 0 tx :: heapR h (HX []) :: []) w20 := by rw [Hb14_18.out] at S; exact S
        clear Hb14_18 Kb14_18 K14_3 Cb14_18_0 Cb14_18_1
        refine named (boxE qe141 :: boxE qe131 :: boxW qq0_12 3 0 (tx) :: boxE qq1_12 :: boxW qa111 3 0 tx :: boxE qe112 :: boxW qq0_10 3 0 (tx.extract p tx.size) :: boxE qq1_10 :: boxW qq0_9 3 0 (tx.extract 0 p) :: boxE qq1_9 :: boxW qv1 3 0 tx :: heapR h (HX []) :: [] : List Res) fun b15_20 hb15_20 => ?_
        have Hb15_20 := Lib.hid hb15_20
        have Kb15_20 : Hid (∀ W (Q : List Res), Sep w (Q ++ b15_20) W → True) := Lib.hid fun W Q T => by
          rw [hb15_20] at T
          trivial
        have Cb15_20_0 : Hid (∀ W (Q : List Res), Sep w (Q ++ b15_20) W → W.cell? ⟨qv1, 0, none⟩ = some (.int .i64 3) ∧ W.cell? ⟨qv1, 1, none⟩ = some (.int .i64 0) ∧ W.cell? ⟨qv1, 2, none⟩ = some (.string tx)) := Lib.hid fun W Q T => by
          rw [hb15_20] at T
          have i0 := T.box (b := qv1) (o := objW 3 0 tx) (Q.length + 10) (by rw [List.getElem?_append_right (by omega), Nat.add_sub_cancel_left]; rfl)
          exact ⟨cellAt i0 0 rfl, cellAt i0 1 rfl, cellAt i0 2 rfl⟩
        have K15_2 : Hid (∀ W (Q : List Res), Sep w (Q ++ b15_20) W → Calls Tryz.prog 20 #[.bool true] W fun e W' => e = .returned (.agg #[.int .i64 1, .int .i64 1, .string ⟨#[]⟩]) ∧ Sep w (Q ++ b15_20) W') := Lib.hid fun W Q T => by
          exact (lyes_ok W true).mono fun e W' ⟨e1, e2⟩ => ⟨e1, T.later e2⟩
        have K15_4 : Hid (∀ W (Q : List Res), Sep w (Q ++ b15_20) W → Calls Tryz.prog 59 #[.pointer (some ⟨h, 0, none⟩), .agg #[.int .i64 3, .int .i64 0, .string tx], .agg #[.int .i64 1, .int .i64 1, .string ⟨#[]⟩], .agg #[.int .i64 0, .int .i64 0, .string ⟨#[]⟩]] W fun e W' => e = .returned (.tuple #[zeroV, excN typeError]) ∧ Sep w (Q ++ b15_20) W') := Lib.hid fun W Q T => by
          rw [Hb15_20.out] at T ⊢
          exact sl_w2s T (Q.length + 11) (by rw [List.getElem?_append_right (by omega), Nat.add_sub_cancel_left]; rfl) (vS tx HTM.out) ⟨1, 1, ⟨#[]⟩, by decide, by decide, by decide⟩ V.zero rfl 1 tx.size false true rfl rfl rfl rfl rfl
        replace S := Lib.hid S
        clear hb15_20
        go_upto_region 15 with fail
        go_cut [25, 26] (fun s25 s26 wx => ∃ qq0_15 qq1_15, s25 = .pointer (some ⟨qq0_15, 0, none⟩) ∧ s26 = .pointer (some ⟨qq1_15, 0, none⟩) ∧ Sep w ([boxZ qq0_15, boxN qq1_15 typeError] ++ b15_20) wx)
        case first =>
          have S1 : Sep w ([] ++ b15_20) (w20) := by rw [Hb15_20.out]; exact S.out
          clear S
          refine regionP 8 4 (E := [emptyR, emptyR]) (base := b15_20) (Sep.putE (Sep.putE S1)) ?_
          clear S1
          refine quietP ?_
          simp only [Act.put, pa]; try dsimp only [List.set]
          refine quietP (hy := fun E Wx hSw => by ((refine and3 (Cb15_20_0.out _ _ hSw) fun u0 u1 u2 => ?_); go_simp; exact ⟨rfl, hSw⟩)) (h := ?_)
          simp only [Act.put, pa]; try dsimp only [List.set]
          refine quietP (hy := fun E Wx hSw => by (go_simp; exact symCall (K15_2.out _ _ hSw))) (h := ?_)
          simp only [Act.put, pa]; try dsimp only [List.set]
          refine quietP ?_
          simp only [Act.put, pa]; try dsimp only [List.set]
          refine quietP (hy := fun E Wx hSw => by (go_simp; exact symCall (K15_4.out _ _ hSw))) (h := ?_)
          simp only [Act.put, pa]; try dsimp only [List.set]
          iterate 3 (refine quietP ?_; simp only [Act.put, pa]; try dsimp only [List.set])
          refine endP ?_
          refine readyS [8, 9] ?_
          refine allocS 0 rfl (fun q => .pointer (some ⟨q, 0, none⟩)) (.cells #[.int .i64 0, .int .i64 0, .string ⟨#[]⟩] 29) (h1 := fun Wx => by go_simp) (h2 := fun qa151 => ?_) (hs := ?_)
          · simp only [Act.put, pa]; try dsimp only [List.set]
            try simp only [List.set_cons_zero, List.set_cons_succ]
            refine readyS [9] ?_
            refine allocS 1 rfl (fun q => .pointer (some ⟨q, 0, none⟩)) (.cells #[.string ⟨#[]⟩, .int .i64 0, .int .i64 0, .string ⟨#[]⟩, .bool false] 38) (h1 := fun Wx => by go_simp) (h2 := fun qe152 => ?_) (hs := nilS)
            simp only [Act.put, pa]; try dsimp only [List.set]
            try simp only [List.set_cons_zero, List.set_cons_succ]
            refine readyS [10] ?_
            refine detS undef [boxZ qa151, boxE qe152] (h1 := fun Wx hSw => by (have hz := hSw.box (b := qa151) (o := objZ) 0 rfl; refine useZ3 hz fun z0 z1 z2 y0 y1 y2 => ?_; go_simp; exact ⟨rfl, hSw.set3 0 rfl (.int .i64 0) (.int .i64 0) (.string ⟨#[]⟩)⟩)) (h2 := ?_) (hs := nilS)
            simp only [Act.put, pa]; try dsimp only [List.set]
            refine readyS [11] ?_
            refine detS undef [boxZ qa151, boxN qe152 typeError] (h1 := fun Wx hSw => by (have hz := hSw.box (b := qe152) (o := objE) 1 rfl; refine useZ5 hz fun z0 z1 z2 z3 z4 y0 y1 y2 y3 y4 => ?_; go_simp; exact ⟨rfl, hSw.set5 1 rfl (.string typeError) (.int .i64 0) (.int .i64 0) (.string ⟨#[]⟩) (.bool false)⟩)) (h2 := ?_) (hs := nilS)
            simp only [Act.put, pa]; try dsimp only [List.set]
            refine doneS (h := fun w22 S => ?_)
            go_wp2_with fail
            as_aux_lemma => (go_meet; exact ⟨_, _, rfl, rfl, S⟩)
          refine allocS 1 rfl (fun q => .pointer (some ⟨q, 0, none⟩)) (.cells #[.string ⟨#[]⟩, .int .i64 0, .int .i64 0, .string ⟨#[]⟩, .bool false] 38) (h1 := fun Wx => by go_simp) (h2 := fun qe155 => ?_) (hs := ?_)
          · simp only [Act.put, pa]; try dsimp only [List.set]
            try simp only [List.set_cons_zero, List.set_cons_succ]
            refine readyS [8] ?_
            refine allocS 0 rfl (fun q => .pointer (some ⟨q, 0, none⟩)) (.cells #[.int .i64 0, .int .i64 0, .string ⟨#[]⟩] 29) (h1 := fun Wx => by go_simp) (h2 := fun qa156 => ?_) (hs := nilS)
            simp only [Act.put, pa]; try dsimp only [List.set]
            try simp only [List.set_cons_zero, List.set_cons_succ]
            refine readyS [10] ?_
            refine detS undef [boxZ qa156, boxE qe155] (h1 := fun Wx hSw => by (have hz := hSw.box (b := qa156) (o := objZ) 0 rfl; refine useZ3 hz fun z0 z1 z2 y0 y1 y2 => ?_; go_simp; exact ⟨rfl, hSw.set3 0 rfl (.int .i64 0) (.int .i64 0) (.string ⟨#[]⟩)⟩)) (h2 := ?_) (hs := nilS)
            simp only [Act.put, pa]; try dsimp only [List.set]
            refine readyS [11] ?_
            refine detS undef [boxZ qa156, boxN qe155 typeError] (h1 := fun Wx hSw => by (have hz := hSw.box (b := qe155) (o := objE) 1 rfl; refine useZ5 hz fun z0 z1 z2 z3 z4 y0 y1 y2 y3 y4 => ?_; go_simp; exact ⟨rfl, hSw.set5 1 rfl (.string typeError) (.int .i64 0) (.int .i64 0) (.string ⟨#[]⟩) (.bool false)⟩)) (h2 := ?_) (hs := nilS)
            simp only [Act.put, pa]; try dsimp only [List.set]
            refine doneS (h := fun w22 S => ?_)
            go_wp2_with fail
            as_aux_lemma => (go_meet; exact ⟨_, _, rfl, rfl, S⟩)
          exact nilS
        case rest =>
          obtain ⟨qq0_15, qq1_15, rfl, rfl, S⟩ := hcut
          replace S : Sep w (boxZ qq0_15 :: boxN qq1_15 typeError :: boxE qe141 :: boxE qe131 :: boxW qq0_12 3 0 (tx) :: boxE qq1_12 :: boxW qa111 3 0 tx :: boxE qe112 :: boxW qq0_10 3 0 (tx.extract p tx.size) :: boxE qq1_10 :: boxW qq0_9 3 0 (tx.extract 0 p) :: boxE qq1_9 :: boxW qv1 3 0 tx :: heapR h (HX []) :: []) wc := by rw [Hb15_20.out] at S; exact S
          clear Hb15_20 Kb15_20 K15_2 K15_4 Cb15_20_0
          refine named (boxZ qq0_15 :: boxN qq1_15 typeError :: boxE qe141 :: boxE qe131 :: boxW qq0_12 3 0 (tx) :: boxE qq1_12 :: boxW qa111 3 0 tx :: boxE qe112 :: boxW qq0_10 3 0 (tx.extract p tx.size) :: boxE qq1_10 :: boxW qq0_9 3 0 (tx.extract 0 p) :: boxE qq1_9 :: boxW qv1 3 0 tx :: heapR h (HX []) :: [] : List Res) fun b16_22 hb16_22 => ?_
          have Hb16_22 := Lib.hid hb16_22
          have Kb16_22 : Hid (∀ W (Q : List Res), Sep w (Q ++ b16_22) W → True) := Lib.hid fun W Q T => by
            rw [hb16_22] at T
            trivial
          have K16_1 : Hid (∀ W (Q : List Res), Sep w (Q ++ b16_22) W → Calls Tryz.prog 16 #[.int .i64 5] W fun e W' => e = .returned (.agg #[.int .i64 2, .int .i64 5, .string ⟨#[]⟩]) ∧ Sep w (Q ++ b16_22) W') := Lib.hid fun W Q T => by
            exact (lnum_ok W 5).mono fun e W' ⟨e1, e2⟩ => ⟨e1, T.later e2⟩
          have K16_4 : Hid (∀ W (Q : List Res), Sep w (Q ++ b16_22) W → Calls Tryz.prog 59 #[.pointer (some ⟨h, 0, none⟩), .agg #[.int .i64 2, .int .i64 5, .string ⟨#[]⟩], .agg #[.int .i64 0, .int .i64 0, .string ⟨#[]⟩], .agg #[.int .i64 0, .int .i64 0, .string ⟨#[]⟩]] W fun e W' => e = .returned (.tuple #[zeroV, excN typeError]) ∧ Sep w (Q ++ b16_22) W') := Lib.hid fun W Q T => by
            rw [Hb16_22.out] at T ⊢
            exact sl_w1 T (Q.length + 13) (by rw [List.getElem?_append_right (by omega), Nat.add_sub_cancel_left]; rfl) (vI 5 (by decide)) V.zero V.zero (by decide) (HeapM.rowB_no _ _ (by decide))
          replace S := Lib.hid S
          clear hb16_22
          go_upto_region 16 with fail
          have S1 : Sep w ([] ++ b16_22) (wc) := by rw [Hb16_22.out]; exact S.out
          clear S
          refine regionL (E := [emptyR, emptyR]) (base := b16_22) (Sep.putE (Sep.putE S1)) ?_
          clear S1
          refine quietL ?_
          simp only [Act.put, pa]; try dsimp only [List.set]
          refine quietL (hy := fun E Wx hSw => by (go_simp; exact symCall (K16_1.out _ _ hSw))) (h := ?_)
          simp only [Act.put, pa]; try dsimp only [List.set]
          iterate 2 (refine quietL ?_; simp only [Act.put, pa]; try dsimp only [List.set])
          refine quietL (hy := fun E Wx hSw => by (go_simp; exact symCall (K16_4.out _ _ hSw))) (h := ?_)
          simp only [Act.put, pa]; try dsimp only [List.set]
          iterate 3 (refine quietL ?_; simp only [Act.put, pa]; try dsimp only [List.set])
          refine allocL 0 rfl (fun q => .pointer (some ⟨q, 0, none⟩)) (.cells #[.int .i64 0, .int .i64 0, .string ⟨#[]⟩] 29) (h1 := fun Wx => by go_simp) (h2 := fun qa161 => ?_)
          simp only [Act.put, pa]; try dsimp only [List.set]
          try simp only [List.set_cons_zero, List.set_cons_succ]
          refine allocL 1 rfl (fun q => .pointer (some ⟨q, 0, none⟩)) (.cells #[.string ⟨#[]⟩, .int .i64 0, .int .i64 0, .string ⟨#[]⟩, .bool false] 38) (h1 := fun Wx => by go_simp) (h2 := fun qe162 => ?_)
          simp only [Act.put, pa]; try dsimp only [List.set]
          try simp only [List.set_cons_zero, List.set_cons_succ]
          refine detL undef [boxZ qa161, boxE qe162] (h1 := fun Wx hSw => by (have hz := hSw.box (b := qa161) (o := objZ) 0 rfl; refine useZ3 hz fun z0 z1 z2 y0 y1 y2 => ?_; go_simp; exact ⟨rfl, hSw.set3 0 rfl (.int .i64 0) (.int .i64 0) (.string ⟨#[]⟩)⟩)) (h2 := ?_)
          simp only [Act.put, pa]; try dsimp only [List.set]
          refine detL undef [boxZ qa161, boxN qe162 typeError] (h1 := fun Wx hSw => by (have hz := hSw.box (b := qe162) (o := objE) 1 rfl; refine useZ5 hz fun z0 z1 z2 z3 z4 y0 y1 y2 y3 y4 => ?_; go_simp; exact ⟨rfl, hSw.set5 1 rfl (.string typeError) (.int .i64 0) (.int .i64 0) (.string ⟨#[]⟩) (.bool false)⟩)) (h2 := ?_)
          simp only [Act.put, pa]; try dsimp only [List.set]
          refine doneL (h := fun w24 S => ?_)
          replace S : Sep w (boxZ qa161 :: boxN qe162 typeError :: boxZ qq0_15 :: boxN qq1_15 typeError :: boxE qe141 :: boxE qe131 :: boxW qq0_12 3 0 (tx) :: boxE qq1_12 :: boxW qa111 3 0 tx :: boxE qe112 :: boxW qq0_10 3 0 (tx.extract p tx.size) :: boxE qq1_10 :: boxW qq0_9 3 0 (tx.extract 0 p) :: boxE qq1_9 :: boxW qv1 3 0 tx :: heapR h (HX []) :: []) w24 := by rw [Hb16_22.out] at S; exact S
          clear Hb16_22 Kb16_22 K16_1 K16_4
          refine named (boxZ qa161 :: boxN qe162 typeError :: boxZ qq0_15 :: boxN qq1_15 typeError :: boxE qe141 :: boxE qe131 :: boxW qq0_12 3 0 (tx) :: boxE qq1_12 :: boxW qa111 3 0 tx :: boxE qe112 :: boxW qq0_10 3 0 (tx.extract p tx.size) :: boxE qq1_10 :: boxW qq0_9 3 0 (tx.extract 0 p) :: boxE qq1_9 :: boxW qv1 3 0 tx :: heapR h (HX []) :: [] : List Res) fun b17_24 hb17_24 => ?_
          have Hb17_24 := Lib.hid hb17_24
          have Kb17_24 : Hid (∀ W (Q : List Res), Sep w (Q ++ b17_24) W → True) := Lib.hid fun W Q T => by
            rw [hb17_24] at T
            trivial
          replace S := Lib.hid S
          clear hb17_24
          go_upto_region 17 with fail
          have S1 : Sep w ([] ++ b17_24) (w24) := by rw [Hb17_24.out]; exact S.out
          clear S
          refine regionL (E := []) (base := b17_24) S1 ?_
          clear S1
          refine quietL ?_
          simp only [Act.put, pa]; try dsimp only [List.set]
          refine quietL (v := .int .u8 0) (hy := fun E Wx hSw => by (go_simp; exact ⟨rfl, hSw⟩)) (h := ?_)
          simp only [Act.put, pa]; try dsimp only [List.set]
          iterate 2 (refine quietL (v := .bool true) (hy := fun E Wx hSw => by (go_simp; exact ⟨rfl, hSw⟩)) (h := ?_); simp only [Act.put, pa]; try dsimp only [List.set])
          iterate 7 (refine skipL ?_; simp only [Act.put, pa]; try dsimp only [List.set])
          refine quietL (v := .bool true) (hy := fun E Wx hSw => by (go_simp; exact ⟨rfl, hSw⟩)) (h := ?_)
          simp only [Act.put, pa]; try dsimp only [List.set]
          refine quietL ?_
          simp only [Act.put, pa]; try dsimp only [List.set]
          iterate 8 (refine skipL ?_; simp only [Act.put, pa]; try dsimp only [List.set])
          refine quietL (v := .bool true) (hy := fun E Wx hSw => by (go_simp; exact ⟨rfl, hSw⟩)) (h := ?_)
          simp only [Act.put, pa]; try dsimp only [List.set]
          refine quietL ?_
          simp only [Act.put, pa]; try dsimp only [List.set]
          refine doneL (h := fun w26 S => ?_)
          replace S : Sep w (boxZ qa161 :: boxN qe162 typeError :: boxZ qq0_15 :: boxN qq1_15 typeError :: boxE qe141 :: boxE qe131 :: boxW qq0_12 3 0 (tx) :: boxE qq1_12 :: boxW qa111 3 0 tx :: boxE qe112 :: boxW qq0_10 3 0 (tx.extract p tx.size) :: boxE qq1_10 :: boxW qq0_9 3 0 (tx.extract 0 p) :: boxE qq1_9 :: boxW qv1 3 0 tx :: heapR h (HX []) :: []) w26 := by rw [Hb17_24.out] at S; exact S
          clear Hb17_24 Kb17_24
          refine named (boxZ qa161 :: boxN qe162 typeError :: boxZ qq0_15 :: boxN qq1_15 typeError :: boxE qe141 :: boxE qe131 :: boxW qq0_12 3 0 (tx) :: boxE qq1_12 :: boxW qa111 3 0 tx :: boxE qe112 :: boxW qq0_10 3 0 (tx.extract p tx.size) :: boxE qq1_10 :: boxW qq0_9 3 0 (tx.extract 0 p) :: boxE qq1_9 :: boxW qv1 3 0 tx :: heapR h (HX []) :: [] : List Res) fun b18_26 hb18_26 => ?_
          have Hb18_26 := Lib.hid hb18_26
          have Kb18_26 : Hid (∀ W (Q : List Res), Sep w (Q ++ b18_26) W → True) := Lib.hid fun W Q T => by
            rw [hb18_26] at T
            trivial
          have Cb18_26_0 : Hid (∀ W (Q : List Res), Sep w (Q ++ b18_26) W → W.cell? ⟨qe112, 0, none⟩ = some (.string ⟨#[]⟩) ∧ W.cell? ⟨qe112, 1, none⟩ = some (.int .i64 0) ∧ W.cell? ⟨qe112, 2, none⟩ = some (.int .i64 0) ∧ W.cell? ⟨qe112, 3, none⟩ = some (.string ⟨#[]⟩) ∧ W.cell? ⟨qe112, 4, none⟩ = some (.bool false)) := Lib.hid fun W Q T => by
            rw [hb18_26] at T
            have i0 := T.box (b := qe112) (o := objE) (Q.length + 9) (by rw [List.getElem?_append_right (by omega), Nat.add_sub_cancel_left]; rfl)
            exact ⟨cellAt i0 0 rfl, cellAt i0 1 rfl, cellAt i0 2 rfl, cellAt i0 3 rfl, cellAt i0 4 rfl⟩
          have Cb18_26_1 : Hid (∀ W (Q : List Res), Sep w (Q ++ b18_26) W → W.cell? ⟨qe131, 0, none⟩ = some (.string ⟨#[]⟩) ∧ W.cell? ⟨qe131, 1, none⟩ = some (.int .i64 0) ∧ W.cell? ⟨qe131, 2, none⟩ = some (.int .i64 0) ∧ W.cell? ⟨qe131, 3, none⟩ = some (.string ⟨#[]⟩) ∧ W.cell? ⟨qe131, 4, none⟩ = some (.bool false)) := Lib.hid fun W Q T => by
            rw [hb18_26] at T
            have i0 := T.box (b := qe131) (o := objE) (Q.length + 5) (by rw [List.getElem?_append_right (by omega), Nat.add_sub_cancel_left]; rfl)
            exact ⟨cellAt i0 0 rfl, cellAt i0 1 rfl, cellAt i0 2 rfl, cellAt i0 3 rfl, cellAt i0 4 rfl⟩
          have Cb18_26_2 : Hid (∀ W (Q : List Res), Sep w (Q ++ b18_26) W → W.cell? ⟨qe141, 0, none⟩ = some (.string ⟨#[]⟩) ∧ W.cell? ⟨qe141, 1, none⟩ = some (.int .i64 0) ∧ W.cell? ⟨qe141, 2, none⟩ = some (.int .i64 0) ∧ W.cell? ⟨qe141, 3, none⟩ = some (.string ⟨#[]⟩) ∧ W.cell? ⟨qe141, 4, none⟩ = some (.bool false)) := Lib.hid fun W Q T => by
            rw [hb18_26] at T
            have i0 := T.box (b := qe141) (o := objE) (Q.length + 4) (by rw [List.getElem?_append_right (by omega), Nat.add_sub_cancel_left]; rfl)
            exact ⟨cellAt i0 0 rfl, cellAt i0 1 rfl, cellAt i0 2 rfl, cellAt i0 3 rfl, cellAt i0 4 rfl⟩
          have Cb18_26_3 : Hid (∀ W (Q : List Res), Sep w (Q ++ b18_26) W → W.cell? ⟨qe162, 0, none⟩ = some (.string typeError) ∧ W.cell? ⟨qe162, 1, none⟩ = some (.int .i64 0) ∧ W.cell? ⟨qe162, 2, none⟩ = some (.int .i64 0) ∧ W.cell? ⟨qe162, 3, none⟩ = some (.string ⟨#[]⟩) ∧ W.cell? ⟨qe162, 4, none⟩ = some (.bool false)) := Lib.hid fun W Q T => by
            rw [hb18_26] at T
            have i0 := T.box (b := qe162) (o := objN typeError) (Q.length + 1) (by rw [List.getElem?_append_right (by omega), Nat.add_sub_cancel_left]; rfl)
            exact ⟨cellAt i0 0 rfl, cellAt i0 1 rfl, cellAt i0 2 rfl, cellAt i0 3 rfl, cellAt i0 4 rfl⟩
          have Cb18_26_4 : Hid (∀ W (Q : List Res), Sep w (Q ++ b18_26) W → W.cell? ⟨qq1_10, 0, none⟩ = some (.string ⟨#[]⟩) ∧ W.cell? ⟨qq1_10, 1, none⟩ = some (.int .i64 0) ∧ W.cell? ⟨qq1_10, 2, none⟩ = some (.int .i64 0) ∧ W.cell? ⟨qq1_10, 3, none⟩ = some (.string ⟨#[]⟩) ∧ W.cell? ⟨qq1_10, 4, none⟩ = some (.bool false)) := Lib.hid fun W Q T => by
            rw [hb18_26] at T
            have i0 := T.box (b := qq1_10) (o := objE) (Q.length + 11) (by rw [List.getElem?_append_right (by omega), Nat.add_sub_cancel_left]; rfl)
            exact ⟨cellAt i0 0 rfl, cellAt i0 1 rfl, cellAt i0 2 rfl, cellAt i0 3 rfl, cellAt i0 4 rfl⟩
          have Cb18_26_5 : Hid (∀ W (Q : List Res), Sep w (Q ++ b18_26) W → W.cell? ⟨qq1_12, 0, none⟩ = some (.string ⟨#[]⟩) ∧ W.cell? ⟨qq1_12, 1, none⟩ = some (.int .i64 0) ∧ W.cell? ⟨qq1_12, 2, none⟩ = some (.int .i64 0) ∧ W.cell? ⟨qq1_12, 3, none⟩ = some (.string ⟨#[]⟩) ∧ W.cell? ⟨qq1_12, 4, none⟩ = some (.bool false)) := Lib.hid fun W Q T => by
            rw [hb18_26] at T
            have i0 := T.box (b := qq1_12) (o := objE) (Q.length + 7) (by rw [List.getElem?_append_right (by omega), Nat.add_sub_cancel_left]; rfl)
            exact ⟨cellAt i0 0 rfl, cellAt i0 1 rfl, cellAt i0 2 rfl, cellAt i0 3 rfl, cellAt i0 4 rfl⟩
          have Cb18_26_6 : Hid (∀ W (Q : List Res), Sep w (Q ++ b18_26) W → W.cell? ⟨qq1_15, 0, none⟩ = some (.string typeError) ∧ W.cell? ⟨qq1_15, 1, none⟩ = some (.int .i64 0) ∧ W.cell? ⟨qq1_15, 2, none⟩ = some (.int .i64 0) ∧ W.cell? ⟨qq1_15, 3, none⟩ = some (.string ⟨#[]⟩) ∧ W.cell? ⟨qq1_15, 4, none⟩ = some (.bool false)) := Lib.hid fun W Q T => by
            rw [hb18_26] at T
            have i0 := T.box (b := qq1_15) (o := objN typeError) (Q.length + 3) (by rw [List.getElem?_append_right (by omega), Nat.add_sub_cancel_left]; rfl)
            exact ⟨cellAt i0 0 rfl, cellAt i0 1 rfl, cellAt i0 2 rfl, cellAt i0 3 rfl, cellAt i0 4 rfl⟩
          have Cb18_26_7 : Hid (∀ W (Q : List Res), Sep w (Q ++ b18_26) W → W.cell? ⟨qq1_9, 0, none⟩ = some (.string ⟨#[]⟩) ∧ W.cell? ⟨qq1_9, 1, none⟩ = some (.int .i64 0) ∧ W.cell? ⟨qq1_9, 2, none⟩ = some (.int .i64 0) ∧ W.cell? ⟨qq1_9, 3, none⟩ = some (.string ⟨#[]⟩) ∧ W.cell? ⟨qq1_9, 4, none⟩ = some (.bool false)) := Lib.hid fun W Q T => by
            rw [hb18_26] at T
            have i0 := T.box (b := qq1_9) (o := objE) (Q.length + 13) (by rw [List.getElem?_append_right (by omega), Nat.add_sub_cancel_left]; rfl)
            exact ⟨cellAt i0 0 rfl, cellAt i0 1 rfl, cellAt i0 2 rfl, cellAt i0 3 rfl, cellAt i0 4 rfl⟩
          have K18_1 : Hid (∀ W (Q : List Res), Sep w (Q ++ b18_26) W → Calls Tryz.prog 19 #[excZ] W fun e W' => e = .returned (.bool true) ∧ Sep w (Q ++ b18_26) W') := Lib.hid fun W Q T => by
            exact (none_z W).mono fun e W' ⟨e1, e2⟩ => ⟨e1, T.later e2⟩
          have K18_4 : Hid (∀ W (Q : List Res), Sep w (Q ++ b18_26) W → Calls Tryz.prog 19 #[excZ] W fun e W' => e = .returned (.bool true) ∧ Sep w (Q ++ b18_26) W') := Lib.hid fun W Q T => by
            exact (none_z W).mono fun e W' ⟨e1, e2⟩ => ⟨e1, T.later e2⟩
          have K18_8 : Hid (∀ W (Q : List Res), Sep w (Q ++ b18_26) W → Calls Tryz.prog 19 #[excZ] W fun e W' => e = .returned (.bool true) ∧ Sep w (Q ++ b18_26) W') := Lib.hid fun W Q T => by
            exact (none_z W).mono fun e W' ⟨e1, e2⟩ => ⟨e1, T.later e2⟩
          have K18_12 : Hid (∀ W (Q : List Res), Sep w (Q ++ b18_26) W → Calls Tryz.prog 19 #[excZ] W fun e W' => e = .returned (.bool true) ∧ Sep w (Q ++ b18_26) W') := Lib.hid fun W Q T => by
            exact (none_z W).mono fun e W' ⟨e1, e2⟩ => ⟨e1, T.later e2⟩
          have K18_16 : Hid (∀ W (Q : List Res), Sep w (Q ++ b18_26) W → Calls Tryz.prog 19 #[excZ] W fun e W' => e = .returned (.bool true) ∧ Sep w (Q ++ b18_26) W') := Lib.hid fun W Q T => by
            exact (none_z W).mono fun e W' ⟨e1, e2⟩ => ⟨e1, T.later e2⟩
          have K18_20 : Hid (∀ W (Q : List Res), Sep w (Q ++ b18_26) W → Calls Tryz.prog 19 #[excZ] W fun e W' => e = .returned (.bool true) ∧ Sep w (Q ++ b18_26) W') := Lib.hid fun W Q T => by
            exact (none_z W).mono fun e W' ⟨e1, e2⟩ => ⟨e1, T.later e2⟩
          have K18_33 : Hid (∀ W (Q : List Res), Sep w (Q ++ b18_26) W → Calls Tryz.prog 21 #[excN typeError, .string typeError] W fun e W' => e = .returned (.bool true) ∧ Sep w (Q ++ b18_26) W') := Lib.hid fun W Q T => by
            exact (raised_type W).mono fun e W' ⟨e1, e2⟩ => ⟨e1, T.later e2⟩
          have K18_37 : Hid (∀ W (Q : List Res), Sep w (Q ++ b18_26) W → Calls Tryz.prog 21 #[excN typeError, .string typeError] W fun e W' => e = .returned (.bool true) ∧ Sep w (Q ++ b18_26) W') := Lib.hid fun W Q T => by
            exact (raised_type W).mono fun e W' ⟨e1, e2⟩ => ⟨e1, T.later e2⟩
          replace S := Lib.hid S
          clear hb18_26
          go_upto_region 18 with fail
          have S1 : Sep w ([] ++ b18_26) (w26) := by rw [Hb18_26.out]; exact S.out
          clear S
          refine regionL (E := []) (base := b18_26) S1 ?_
          clear S1
          refine quietL (hy := fun E Wx hSw => by ((refine and5 (Cb18_26_7.out _ _ hSw) fun u0 u1 u2 u3 u4 => ?_); go_simp; exact ⟨rfl, hSw⟩)) (h := ?_)
          simp only [Act.put, pa]; try dsimp only [List.set]
          refine quietL (hy := fun E Wx hSw => by (go_simp; exact symCall (K18_1.out _ _ hSw))) (h := ?_)
          simp only [Act.put, pa]; try dsimp only [List.set]
          refine quietL ?_
          simp only [Act.put, pa]; try dsimp only [List.set]
          refine quietL (hy := fun E Wx hSw => by ((refine and5 (Cb18_26_4.out _ _ hSw) fun u0 u1 u2 u3 u4 => ?_); go_simp; exact ⟨rfl, hSw⟩)) (h := ?_)
          simp only [Act.put, pa]; try dsimp only [List.set]
          refine quietL (hy := fun E Wx hSw => by (go_simp; exact symCall (K18_4.out _ _ hSw))) (h := ?_)
          simp only [Act.put, pa]; try dsimp only [List.set]
          iterate 2 (refine quietL ?_; simp only [Act.put, pa]; try dsimp only [List.set])
          refine quietL (hy := fun E Wx hSw => by ((refine and5 (Cb18_26_0.out _ _ hSw) fun u0 u1 u2 u3 u4 => ?_); go_simp; exact ⟨rfl, hSw⟩)) (h := ?_)
          simp only [Act.put, pa]; try dsimp only [List.set]
          refine quietL (hy := fun E Wx hSw => by (go_simp; exact symCall (K18_8.out _ _ hSw))) (h := ?_)
          simp only [Act.put, pa]; try dsimp only [List.set]
          iterate 2 (refine quietL ?_; simp only [Act.put, pa]; try dsimp only [List.set])
          refine quietL (hy := fun E Wx hSw => by ((refine and5 (Cb18_26_5.out _ _ hSw) fun u0 u1 u2 u3 u4 => ?_); go_simp; exact ⟨rfl, hSw⟩)) (h := ?_)
          simp only [Act.put, pa]; try dsimp only [List.set]
          refine quietL (hy := fun E Wx hSw => by (go_simp; exact symCall (K18_12.out _ _ hSw))) (h := ?_)
          simp only [Act.put, pa]; try dsimp only [List.set]
          iterate 2 (refine quietL ?_; simp only [Act.put, pa]; try dsimp only [List.set])
          refine quietL (hy := fun E Wx hSw => by ((refine and5 (Cb18_26_1.out _ _ hSw) fun u0 u1 u2 u3 u4 => ?_); go_simp; exact ⟨rfl, hSw⟩)) (h := ?_)
          simp only [Act.put, pa]; try dsimp only [List.set]
          refine quietL (hy := fun E Wx hSw => by (go_simp; exact symCall (K18_16.out _ _ hSw))) (h := ?_)
          simp only [Act.put, pa]; try dsimp only [List.set]
          iterate 2 (refine quietL ?_; simp only [Act.put, pa]; try dsimp only [List.set])
          refine quietL (hy := fun E Wx hSw => by ((refine and5 (Cb18_26_2.out _ _ hSw) fun u0 u1 u2 u3 u4 => ?_); go_simp; exact ⟨rfl, hSw⟩)) (h := ?_)
          simp only [Act.put, pa]; try dsimp only [List.set]
          refine quietL (hy := fun E Wx hSw => by (go_simp; exact symCall (K18_20.out _ _ hSw))) (h := ?_)
          simp only [Act.put, pa]; try dsimp only [List.set]
          iterate 11 (refine quietL ?_; simp only [Act.put, pa]; try dsimp only [List.set])
          refine quietL (hy := fun E Wx hSw => by ((refine and5 (Cb18_26_6.out _ _ hSw) fun u0 u1 u2 u3 u4 => ?_); go_simp; exact ⟨rfl, hSw⟩)) (h := ?_)
          simp only [Act.put, pa]; try dsimp only [List.set]
          refine quietL (hy := fun E Wx hSw => by (go_simp; exact symCall (K18_33.out _ _ hSw))) (h := ?_)
          simp only [Act.put, pa]; try dsimp only [List.set]
          iterate 2 (refine quietL ?_; simp only [Act.put, pa]; try dsimp only [List.set])
          refine quietL (hy := fun E Wx hSw => by ((refine and5 (Cb18_26_3.out _ _ hSw) fun u0 u1 u2 u3 u4 => ?_); go_simp; exact ⟨rfl, hSw⟩)) (h := ?_)
          simp only [Act.put, pa]; try dsimp only [List.set]
          refine quietL (hy := fun E Wx hSw => by (go_simp; exact symCall (K18_37.out _ _ hSw))) (h := ?_)
          simp only [Act.put, pa]; try dsimp only [List.set]
          iterate 2 (refine quietL ?_; simp only [Act.put, pa]; try dsimp only [List.set])
          refine doneL (h := fun w28 S => ?_)
          replace S : Sep w (boxZ qa161 :: boxN qe162 typeError :: boxZ qq0_15 :: boxN qq1_15 typeError :: boxE qe141 :: boxE qe131 :: boxW qq0_12 3 0 (tx) :: boxE qq1_12 :: boxW qa111 3 0 tx :: boxE qe112 :: boxW qq0_10 3 0 (tx.extract p tx.size) :: boxE qq1_10 :: boxW qq0_9 3 0 (tx.extract 0 p) :: boxE qq1_9 :: boxW qv1 3 0 tx :: heapR h (HX []) :: []) w28 := by rw [Hb18_26.out] at S; exact S
          clear Hb18_26 Kb18_26 K18_1 K18_4 K18_8 K18_12 K18_16 K18_20 K18_33 K18_37 Cb18_26_0 Cb18_26_1 Cb18_26_2 Cb18_26_3 Cb18_26_4 Cb18_26_5 Cb18_26_6 Cb18_26_7
          replace S := Lib.hid S.below
          go_wp2
          go_ret
          exact ⟨rfl, S.out⟩
set_option maxRecDepth 100000 in
set_option maxHeartbeats 12800000 in
theorem walk1 (w : World) (s : ByteArray) (hs0 : s.size ≤ maxLen) (at_ : Int) (hat : okI at_) (sa : Value) (l : List V) (hs : SeesV w sa l) (kd : Int) (tb : Bool) (hkd : kd = 1 ∧ tb = false ∨ kd = 2 ∧ tb = true) :
    Calls Tryz.prog 26 #[sa, .string s, .int .u8 kd, .int .i64 at_] w fun e W' => e = .returned (.bool true) ∧ Below w.heap.size w W' := by
  obtain ⟨k8, hk8⟩ : ∃ k, k = min s.size 8 := ⟨_, rfl⟩
  have he : (if (8 : Int) < (s.size : Int) then (8 : Int) else (s.size : Int)) = (k8 : Int) := by rw [hk8]; split <;> omega
  have he2 : min (s.size : Int) 8 = (k8 : Int) := by omega
  have hl8 : (k8 : Int) ≤ (s.size : Int) := by omega
  have hz8 : (s.extract 0 k8).size ≤ 8 := by rw [ByteArray.size_extract]; omega
  obtain ⟨tx, hT⟩ : ∃ t, t = s.extract 0 k8 := ⟨_, rfl⟩
  rw [← hT] at hz8
  have HT := Lib.hid hT
  have HZ8 := Lib.hid hz8
  have HTM : Hid (tx.size ≤ maxLen) := Lib.hid (by unfold maxLen; have := HZ8.out; omega)
  clear hk8 hT hz8
  obtain ⟨P, hP⟩ : ∃ P, P = (l.take 8).map plainV := ⟨_, rfl⟩
  have hnP : (l.take 8).length = P.length := by rw [hP, List.length_map]
  have H8 := Lib.hid (show P.length ≤ 8 by rw [← hnP, List.length_take]; omega)
  have HP := Lib.hid hP
  have HN := Lib.hid hnP
  have hok : okI kd := by rcases hkd with ⟨rfl, _⟩ | ⟨rfl, _⟩ <;> decide
  have hkm : kd.tmod 3 = kd := by rcases hkd with ⟨rfl, _⟩ | ⟨rfl, _⟩ <;> rfl
  have hk0 : 0 < kd := by omega
  have hk2 : decide (kd = 2) = tb := by rcases hkd with ⟨rfl, rfl⟩ | ⟨rfl, rfl⟩ <;> rfl
  have hk2b : (kd == 2) = tb := by rcases hkd with ⟨rfl, rfl⟩ | ⟨rfl, rfl⟩ <;> rfl
  have HKF := Lib.hid (And.intro hkm (And.intro hk0 (And.intro hk2 hk2b)))
  have HKD := Lib.hid hkd
  clear hkm hk0 hk2 hk2b hkd
  have HS := Lib.hid hs
  have HAT := Lib.hid hat
  have S := Sep.start (Below.refl w.heap.size w)
  have M0 := Lib.hid (shown_ok S)
  clear S hs hat hP hnP
  go_enter Tryz.func26, Tryz.ntmps26
  go_wp2_with fail
  refine M0.out.mono ?_
  rintro e w1 ⟨rfl, S⟩
  clear M0
  have M := Lib.hid S.new
  clear S
  go_wp2_with fail
  refine M.out.mono ?_
  rintro e w2 ⟨h, rfl, S, -⟩
  clear M
  replace S : Sep w (heapR h (HX []) :: []) _ := S
  have HG0 := Lib.hid HXG.nil
  refine named (heapR h (HX []) :: [] : List Res) fun b5_2 hb5_2 => ?_
  have Hb5_2 := Lib.hid hb5_2
  have Kb5_2 : Hid (∀ W (Q : List Res), Sep w (Q ++ b5_2) W → True) := Lib.hid fun W Q T => by
    rw [hb5_2] at T
    trivial
  have K5_5 : Hid (∀ W (Q : List Res), Sep w (Q ++ b5_2) W → Calls Tryz.prog 17 #[.string tx] W fun e W' => e = .returned (.agg #[.int .i64 3, .int .i64 0, .string tx]) ∧ Sep w (Q ++ b5_2) W') := Lib.hid fun W Q T => by
    exact (lstr_ok W tx).mono fun e W' ⟨e1, e2⟩ => ⟨e1, T.later e2⟩
  replace S := Lib.hid S
  clear hb5_2
  go_upto_region 5 with fail
  have S1 : Sep w ([] ++ b5_2) (w2) := by rw [Hb5_2.out]; exact S.out
  clear S
  refine regionL (E := [emptyR]) (base := b5_2) (Sep.putE S1) ?_
  clear S1
  iterate 4 (refine quietL ?_; simp only [Act.put, pa]; try dsimp only [List.set])
  refine quietL (v := .string tx) (hy := fun E Wx hSw => by (rw [HT.out]; go_simp; exact ⟨rfl, hSw⟩)) (h := ?_)
  simp only [Act.put, pa]; try dsimp only [List.set]
  refine quietL (hy := fun E Wx hSw => by (go_simp; exact symCall (K5_5.out _ _ hSw))) (h := ?_)
  simp only [Act.put, pa]; try dsimp only [List.set]
  refine allocL 0 rfl (fun q => .pointer (some ⟨q, 0, none⟩)) (.cells #[.int .i64 0, .int .i64 0, .string ⟨#[]⟩] 29) (h1 := fun Wx => by go_simp) (h2 := fun qv1 => ?_)
  simp only [Act.put, pa]; try dsimp only [List.set]
  try simp only [List.set_cons_zero, List.set_cons_succ]
  refine detL undef [boxW qv1 3 0 tx] (h1 := fun Wx hSw => by (have hz := hSw.box (b := qv1) (o := objZ) 0 rfl; refine useZ3 hz fun z0 z1 z2 y0 y1 y2 => ?_; go_simp; exact ⟨rfl, hSw.set3 0 rfl (.int .i64 3) (.int .i64 0) (.string tx)⟩)) (h2 := ?_)
  simp only [Act.put, pa]; try dsimp only [List.set]
  refine doneL (h := fun w4 S => ?_)
  replace S : Sep w (boxW qv1 3 0 tx :: heapR h (HX []) :: []) w4 := by rw [Hb5_2.out] at S; exact S
  clear Hb5_2 Kb5_2 K5_5
  clear he he2 hl8
  refine named (boxW qv1 3 0 tx :: heapR h (HX []) :: [] : List Res) fun b6_4 hb6_4 => ?_
  have Hb6_4 := Lib.hid hb6_4
  have Kb6_4 : Hid (∀ W (Q : List Res), Sep w (Q ++ b6_4) W → True) := Lib.hid fun W Q T => by
    rw [hb6_4] at T
    trivial
  have Cb6_4_0 : Hid (∀ W (Q : List Res), Sep w (Q ++ b6_4) W → W.cell? ⟨qv1, 0, none⟩ = some (.int .i64 3) ∧ W.cell? ⟨qv1, 1, none⟩ = some (.int .i64 0) ∧ W.cell? ⟨qv1, 2, none⟩ = some (.string tx)) := Lib.hid fun W Q T => by
    rw [hb6_4] at T
    have i0 := T.box (b := qv1) (o := objW 3 0 tx) (Q.length + 0) (by rw [List.getElem?_append_right (by omega), Nat.add_sub_cancel_left]; rfl)
    exact ⟨cellAt i0 0 rfl, cellAt i0 1 rfl, cellAt i0 2 rfl⟩
  replace S := Lib.hid S
  clear hb6_4
  go_upto_region 6 with fail
  have S1 : Sep w ([] ++ b6_4) (w4) := by rw [Hb6_4.out]; exact S.out
  clear S
  refine regionL (E := []) (base := b6_4) S1 ?_
  clear S1
  iterate 2 (refine quietL (hy := fun E Wx hSw => by ((refine and3 (Cb6_4_0.out _ _ hSw) fun u0 u1 u2 => ?_); go_simp; exact ⟨rfl, hSw⟩)) (h := ?_); simp only [Act.put, pa]; try dsimp only [List.set])
  iterate 2 (refine quietL ?_; simp only [Act.put, pa]; try dsimp only [List.set])
  refine doneL (h := fun w6 S => ?_)
  replace S : Sep w (boxW qv1 3 0 tx :: heapR h (HX []) :: []) w6 := by rw [Hb6_4.out] at S; exact S
  clear Hb6_4 Kb6_4 Cb6_4_0
  obtain ⟨q1, q2, q3, q4⟩ := HKF.out
  refine named (boxW qv1 3 0 tx :: heapR h (HX []) :: [] : List Res) fun b7_6 hb7_6 => ?_
  have Hb7_6 := Lib.hid hb7_6
  have Kb7_6 : Hid (∀ W (Q : List Res), Sep w (Q ++ b7_6) W → True) := Lib.hid fun W Q T => by
    rw [hb7_6] at T
    trivial
  replace S := Lib.hid S
  clear hb7_6
  go_upto_region 7 with fail
  have S1 : Sep w ([] ++ b7_6) (w6) := by rw [Hb7_6.out]; exact S.out
  clear S
  refine regionL (E := []) (base := b7_6) S1 ?_
  clear S1
  iterate 3 (refine quietL ?_; simp only [Act.put, pa]; try dsimp only [List.set])
  refine doneL (h := fun w8 S => ?_)
  replace S : Sep w (boxW qv1 3 0 tx :: heapR h (HX []) :: []) w8 := by rw [Hb7_6.out] at S; exact S
  clear Hb7_6 Kb7_6
  have HG1 : Hid (HXG [rowO kd hok P]) := Lib.hid (HG0.out.snoc (by have := H8.out; omega))
  replace S : Sep w (boxW qv1 3 0 tx :: heapR h (HX []) :: []) (w8) := S
  refine named ([] : List Res) fun b8 hb8 => ?_
  have Hb8 := Lib.hid hb8
  have Kb8 : Hid (∀ W (Q : List Res), Sep w (Q ++ b8) W → True) := Lib.hid fun W Q T => by
    rw [hb8] at T
    trivial
  replace S := Lib.hid S
  clear hb8
  go_upto_region 8 with fail
  have S1 : Sep w ([boxW qv1 3 0 tx, heapR h (HX [])] ++ b8) (w8) := by rw [Hb8.out]; exact S.out
  clear S
  refine regionL (E := [boxW qv1 3 0 tx, heapR h (HX [])]) (base := b8) S1 ?_
  clear S1
  iterate 5 (refine quietL ?_; simp only [Act.put, pa]; try dsimp only [List.set])
  refine detL (.tuple #[.agg #[.int .i64 4, .int .i64 1, .string ⟨#[]⟩], .int .i64 P.length]) [boxW qv1 3 0 tx, heapR h (HX [rowO kd hok P])] (h1 := fun Wx hSw => by (go_simp; refine symCall ?_; have hh := rows_any hSw 1 rfl (HG0.out.good (by simp)) (by decide) sa l HS.out kd tb HKD.out hok; rw [HN.out, ← HP.out] at hh; exact hh)) (h2 := ?_)
  simp only [Act.put, pa]; try dsimp only [List.set]
  iterate 3 (refine quietL ?_; simp only [Act.put, pa]; try dsimp only [List.set])
  refine detL undef [boxW qv1 4 1 ⟨#[]⟩, heapR h (HX [rowO kd hok P])] (h1 := fun Wx hSw => by (have hz := hSw.box (b := qv1) (o := objW 3 0 tx) 0 rfl; refine useZ3 hz fun z0 z1 z2 y0 y1 y2 => ?_; go_simp; exact ⟨rfl, hSw.set3 0 rfl (.int .i64 4) (.int .i64 1) (.string ⟨#[]⟩)⟩)) (h2 := ?_)
  simp only [Act.put, pa]; try dsimp only [List.set]
  refine quietL ?_
  simp only [Act.put, pa]; try dsimp only [List.set]
  refine doneL (h := fun w9 S => ?_)
  replace S : Sep w (boxW qv1 4 1 ⟨#[]⟩ :: heapR h (HX [rowO kd hok P]) :: []) w9 := by rw [Hb8.out] at S; exact S
  clear q1 q2 q3 q4
  have HOI : Hid (-9223372036854775808 ≤ at_ ∧ at_ ≤ 9223372036854775807) := Lib.hid (okI_range HAT.out)
  obtain ⟨p, hp⟩ : ∃ p, p = lowN P.length at_ := ⟨_, rfl⟩
  have hpn : p ≤ P.length := by rw [hp]; have := lowN_eq P.length at_ 0; omega
  have HPP := Lib.hid hp
  have HPN := Lib.hid hpn
  clear hp hpn
  have HG2 : Hid (HXG [rowO kd hok P, rowO kd hok (P.take p)]) := Lib.hid (HG1.out.snoc (by rw [List.length_take]; have := H8.out; omega))
  replace S : Sep w (heapR h (HX [rowO kd hok P]) :: boxW qv1 4 1 ⟨#[]⟩ :: []) (w9) := by
    refine (show Sep w ([boxW qv1 4 1 ⟨#[]⟩, heapR h (HX [rowO kd hok P])] ++ []) _ from S).perm ?_
    exact List.Perm.append_right [] (perm_of (l := [boxW qv1 4 1 ⟨#[]⟩, heapR h (HX [rowO kd hok P])]) [1, 0] (by show (List.range' 0 2).Perm [1, 0]; decide) (by rfl))
  refine named (boxW qv1 4 1 ⟨#[]⟩ :: [] : List Res) fun b9_9 hb9_9 => ?_
  have Hb9_9 := Lib.hid hb9_9
  have Kb9_9 : Hid (∀ W (Q : List Res), Sep w (Q ++ b9_9) W → True) := Lib.hid fun W Q T => by
    rw [hb9_9] at T
    trivial
  have Cb9_9_0 : Hid (∀ W (Q : List Res), Sep w (Q ++ b9_9) W → W.cell? ⟨qv1, 0, none⟩ = some (.int .i64 4) ∧ W.cell? ⟨qv1, 1, none⟩ = some (.int .i64 1) ∧ W.cell? ⟨qv1, 2, none⟩ = some (.string ⟨#[]⟩)) := Lib.hid fun W Q T => by
    rw [hb9_9] at T
    have i0 := T.box (b := qv1) (o := objW 4 1 ⟨#[]⟩) (Q.length + 0) (by rw [List.getElem?_append_right (by omega), Nat.add_sub_cancel_left]; rfl)
    exact ⟨cellAt i0 0 rfl, cellAt i0 1 rfl, cellAt i0 2 rfl⟩
  have K9_4 : Hid (∀ W (Q : List Res), Sep w (Q ++ b9_9) W → Calls Tryz.prog 16 #[.int .i64 at_] W fun e W' => e = .returned (.agg #[.int .i64 2, .int .i64 at_, .string ⟨#[]⟩]) ∧ Sep w (Q ++ b9_9) W') := Lib.hid fun W Q T => by
    exact (lnum_ok W at_).mono fun e W' ⟨e1, e2⟩ => ⟨e1, T.later e2⟩
  replace S := Lib.hid S
  clear hb9_9
  go_upto_region 9 with fail
  go_cut [13, 14] (fun s13 s14 wx => ∃ qq0_9 qq1_9, s13 = .pointer (some ⟨qq0_9, 0, none⟩) ∧ s14 = .pointer (some ⟨qq1_9, 0, none⟩) ∧ Sep w ([boxW qq0_9 4 2 ⟨#[]⟩, boxE qq1_9, heapR h (HX [rowO kd hok P, rowO kd hok (P.take p)])] ++ b9_9) wx)
  case first =>
    have S1 : Sep w ([heapR h (HX [rowO kd hok P])] ++ b9_9) (w9) := by rw [Hb9_9.out]; exact S.out
    clear S
    refine regionP 5 8 (E := [emptyR, emptyR, heapR h (HX [rowO kd hok P])]) (base := b9_9) (Sep.putE (Sep.putE S1)) ?_
    clear S1
    refine quietP ?_
    simp only [Act.put, pa]; try dsimp only [List.set]
    refine quietP (hy := fun E Wx hSw => by ((refine and3 (Cb9_9_0.out _ _ hSw) fun u0 u1 u2 => ?_); go_simp; exact ⟨rfl, hSw⟩)) (h := ?_)
    simp only [Act.put, pa]; try dsimp only [List.set]
    iterate 2 (refine quietP ?_; simp only [Act.put, pa]; try dsimp only [List.set])
    refine quietP (hy := fun E Wx hSw => by (go_simp; exact symCall (K9_4.out _ _ hSw))) (h := ?_)
    simp only [Act.put, pa]; try dsimp only [List.set]
    refine endP ?_
    refine readyS [5, 9, 10] ?_
    refine detS (.tuple #[.agg #[.int .i64 4, .int .i64 2, .string ⟨#[]⟩], excZ]) [emptyR, emptyR, heapR h (HX [rowO kd hok P, rowO kd hok (P.take p)])] (h1 := fun Wx hSw => by (go_simp; refine symCall ?_; exact sl_rows hSw 2 rfl (HG1.out.good (by simp)) (by decide) (vX 1 (by decide)) V.zero (vI at_ HAT.out) (rowB_of (kd := kd) rfl HKD.out) 0 at_ rfl rfl (by decide) HAT.out rfl rfl (P.take p) (by rw [HPP.out]; exact slice_at P at_ (by have := H8.out; omega) HAT.out) (by rw [List.length_take]; have := H8.out; omega))) (h2 := ?_) (hs := ?_)
    · simp only [Act.put, pa]; try dsimp only [List.set]
      refine quietS 6 ?_
      simp only [Act.put, pa]; try dsimp only [List.set]
      refine quietS 7 ?_
      simp only [Act.put, pa]; try dsimp only [List.set]
      refine quietS 8 ?_
      simp only [Act.put, pa]; try dsimp only [List.set]
      refine readyS [9, 10] ?_
      refine allocS 0 rfl (fun q => .pointer (some ⟨q, 0, none⟩)) (.cells #[.int .i64 0, .int .i64 0, .string ⟨#[]⟩] 29) (h1 := fun Wx => by go_simp) (h2 := fun qa92 => ?_) (hs := ?_)
      · simp only [Act.put, pa]; try dsimp only [List.set]
        try simp only [List.set_cons_zero, List.set_cons_succ]
        refine readyS [10] ?_
        refine allocS 1 rfl (fun q => .pointer (some ⟨q, 0, none⟩)) (.cells #[.string ⟨#[]⟩, .int .i64 0, .int .i64 0, .string ⟨#[]⟩, .bool false] 38) (h1 := fun Wx => by go_simp) (h2 := fun qe93 => ?_) (hs := nilS)
        simp only [Act.put, pa]; try dsimp only [List.set]
        try simp only [List.set_cons_zero, List.set_cons_succ]
        refine readyS [11] ?_
        refine detS undef [boxW qa92 4 2 ⟨#[]⟩, boxE qe93, heapR h (HX [rowO kd hok P, rowO kd hok (P.take p)])] (h1 := fun Wx hSw => by (have hz := hSw.box (b := qa92) (o := objZ) 0 rfl; refine useZ3 hz fun z0 z1 z2 y0 y1 y2 => ?_; go_simp; exact ⟨rfl, hSw.set3 0 rfl (.int .i64 4) (.int .i64 2) (.string ⟨#[]⟩)⟩)) (h2 := ?_) (hs := nilS)
        simp only [Act.put, pa]; try dsimp only [List.set]
        refine readyS [12] ?_
        refine detS undef [boxW qa92 4 2 ⟨#[]⟩, boxE qe93, heapR h (HX [rowO kd hok P, rowO kd hok (P.take p)])] (h1 := fun Wx hSw => by (have hz := hSw.box (b := qe93) (o := objE) 1 rfl; refine useZ5 hz fun z0 z1 z2 z3 z4 y0 y1 y2 y3 y4 => ?_; go_simp; exact ⟨rfl, hSw.set5 1 rfl (.string ⟨#[]⟩) (.int .i64 0) (.int .i64 0) (.string ⟨#[]⟩) (.bool false)⟩)) (h2 := ?_) (hs := nilS)
        simp only [Act.put, pa]; try dsimp only [List.set]
        refine doneS (h := fun w11 S => ?_)
        go_wp2_with fail
        as_aux_lemma => (go_meet; exact ⟨_, _, rfl, rfl, S⟩)
      refine allocS 1 rfl (fun q => .pointer (some ⟨q, 0, none⟩)) (.cells #[.string ⟨#[]⟩, .int .i64 0, .int .i64 0, .string ⟨#[]⟩, .bool false] 38) (h1 := fun Wx => by go_simp) (h2 := fun qe96 => ?_) (hs := ?_)
      · simp only [Act.put, pa]; try dsimp only [List.set]
        try simp only [List.set_cons_zero, List.set_cons_succ]
        refine readyS [9] ?_
        refine allocS 0 rfl (fun q => .pointer (some ⟨q, 0, none⟩)) (.cells #[.int .i64 0, .int .i64 0, .string ⟨#[]⟩] 29) (h1 := fun Wx => by go_simp) (h2 := fun qa97 => ?_) (hs := nilS)
        simp only [Act.put, pa]; try dsimp only [List.set]
        try simp only [List.set_cons_zero, List.set_cons_succ]
        refine readyS [11] ?_
        refine detS undef [boxW qa97 4 2 ⟨#[]⟩, boxE qe96, heapR h (HX [rowO kd hok P, rowO kd hok (P.take p)])] (h1 := fun Wx hSw => by (have hz := hSw.box (b := qa97) (o := objZ) 0 rfl; refine useZ3 hz fun z0 z1 z2 y0 y1 y2 => ?_; go_simp; exact ⟨rfl, hSw.set3 0 rfl (.int .i64 4) (.int .i64 2) (.string ⟨#[]⟩)⟩)) (h2 := ?_) (hs := nilS)
        simp only [Act.put, pa]; try dsimp only [List.set]
        refine readyS [12] ?_
        refine detS undef [boxW qa97 4 2 ⟨#[]⟩, boxE qe96, heapR h (HX [rowO kd hok P, rowO kd hok (P.take p)])] (h1 := fun Wx hSw => by (have hz := hSw.box (b := qe96) (o := objE) 1 rfl; refine useZ5 hz fun z0 z1 z2 z3 z4 y0 y1 y2 y3 y4 => ?_; go_simp; exact ⟨rfl, hSw.set5 1 rfl (.string ⟨#[]⟩) (.int .i64 0) (.int .i64 0) (.string ⟨#[]⟩) (.bool false)⟩)) (h2 := ?_) (hs := nilS)
        simp only [Act.put, pa]; try dsimp only [List.set]
        refine doneS (h := fun w11 S => ?_)
        go_wp2_with fail
        as_aux_lemma => (go_meet; exact ⟨_, _, rfl, rfl, S⟩)
      exact nilS
    refine allocS 0 rfl (fun q => .pointer (some ⟨q, 0, none⟩)) (.cells #[.int .i64 0, .int .i64 0, .string ⟨#[]⟩] 29) (h1 := fun Wx => by go_simp) (h2 := fun qa910 => ?_) (hs := ?_)
    · simp only [Act.put, pa]; try dsimp only [List.set]
      try simp only [List.set_cons_zero, List.set_cons_succ]
      refine readyS [5, 10] ?_
      refine detS (.tuple #[.agg #[.int .i64 4, .int .i64 2, .string ⟨#[]⟩], excZ]) [boxZ qa910, emptyR, heapR h (HX [rowO kd hok P, rowO kd hok (P.take p)])] (h1 := fun Wx hSw => by (go_simp; refine symCall ?_; exact sl_rows hSw 2 rfl (HG1.out.good (by simp)) (by decide) (vX 1 (by decide)) V.zero (vI at_ HAT.out) (rowB_of (kd := kd) rfl HKD.out) 0 at_ rfl rfl (by decide) HAT.out rfl rfl (P.take p) (by rw [HPP.out]; exact slice_at P at_ (by have := H8.out; omega) HAT.out) (by rw [List.length_take]; have := H8.out; omega))) (h2 := ?_) (hs := ?_)
      · simp only [Act.put, pa]; try dsimp only [List.set]
        refine quietS 6 ?_
        simp only [Act.put, pa]; try dsimp only [List.set]
        refine quietS 7 ?_
        simp only [Act.put, pa]; try dsimp only [List.set]
        refine quietS 8 ?_
        simp only [Act.put, pa]; try dsimp only [List.set]
        refine readyS [10] ?_
        refine allocS 1 rfl (fun q => .pointer (some ⟨q, 0, none⟩)) (.cells #[.string ⟨#[]⟩, .int .i64 0, .int .i64 0, .string ⟨#[]⟩, .bool false] 38) (h1 := fun Wx => by go_simp) (h2 := fun qe912 => ?_) (hs := nilS)
        simp only [Act.put, pa]; try dsimp only [List.set]
        try simp only [List.set_cons_zero, List.set_cons_succ]
        refine readyS [11] ?_
        refine detS undef [boxW qa910 4 2 ⟨#[]⟩, boxE qe912, heapR h (HX [rowO kd hok P, rowO kd hok (P.take p)])] (h1 := fun Wx hSw => by (have hz := hSw.box (b := qa910) (o := objZ) 0 rfl; refine useZ3 hz fun z0 z1 z2 y0 y1 y2 => ?_; go_simp; exact ⟨rfl, hSw.set3 0 rfl (.int .i64 4) (.int .i64 2) (.string ⟨#[]⟩)⟩)) (h2 := ?_) (hs := nilS)
        simp only [Act.put, pa]; try dsimp only [List.set]
        refine readyS [12] ?_
        refine detS undef [boxW qa910 4 2 ⟨#[]⟩, boxE qe912, heapR h (HX [rowO kd hok P, rowO kd hok (P.take p)])] (h1 := fun Wx hSw => by (have hz := hSw.box (b := qe912) (o := objE) 1 rfl; refine useZ5 hz fun z0 z1 z2 z3 z4 y0 y1 y2 y3 y4 => ?_; go_simp; exact ⟨rfl, hSw.set5 1 rfl (.string ⟨#[]⟩) (.int .i64 0) (.int .i64 0) (.string ⟨#[]⟩) (.bool false)⟩)) (h2 := ?_) (hs := nilS)
        simp only [Act.put, pa]; try dsimp only [List.set]
        refine doneS (h := fun w11 S => ?_)
        go_wp2_with fail
        as_aux_lemma => (go_meet; exact ⟨_, _, rfl, rfl, S⟩)
      refine allocS 1 rfl (fun q => .pointer (some ⟨q, 0, none⟩)) (.cells #[.string ⟨#[]⟩, .int .i64 0, .int .i64 0, .string ⟨#[]⟩, .bool false] 38) (h1 := fun Wx => by go_simp) (h2 := fun qe915 => ?_) (hs := ?_)
      · simp only [Act.put, pa]; try dsimp only [List.set]
        try simp only [List.set_cons_zero, List.set_cons_succ]
        refine readyS [5] ?_
        refine detS (.tuple #[.agg #[.int .i64 4, .int .i64 2, .string ⟨#[]⟩], excZ]) [boxZ qa910, boxE qe915, heapR h (HX [rowO kd hok P, rowO kd hok (P.take p)])] (h1 := fun Wx hSw => by (go_simp; refine symCall ?_; exact sl_rows hSw 2 rfl (HG1.out.good (by simp)) (by decide) (vX 1 (by decide)) V.zero (vI at_ HAT.out) (rowB_of (kd := kd) rfl HKD.out) 0 at_ rfl rfl (by decide) HAT.out rfl rfl (P.take p) (by rw [HPP.out]; exact slice_at P at_ (by have := H8.out; omega) HAT.out) (by rw [List.length_take]; have := H8.out; omega))) (h2 := ?_) (hs := nilS)
        simp only [Act.put, pa]; try dsimp only [List.set]
        refine quietS 6 ?_
        simp only [Act.put, pa]; try dsimp only [List.set]
        refine quietS 7 ?_
        simp only [Act.put, pa]; try dsimp only [List.set]
        refine quietS 8 ?_
        simp only [Act.put, pa]; try dsimp only [List.set]
        refine readyS [11] ?_
        refine detS undef [boxW qa910 4 2 ⟨#[]⟩, boxE qe915, heapR h (HX [rowO kd hok P, rowO kd hok (P.take p)])] (h1 := fun Wx hSw => by (have hz := hSw.box (b := qa910) (o := objZ) 0 rfl; refine useZ3 hz fun z0 z1 z2 y0 y1 y2 => ?_; go_simp; exact ⟨rfl, hSw.set3 0 rfl (.int .i64 4) (.int .i64 2) (.string ⟨#[]⟩)⟩)) (h2 := ?_) (hs := nilS)
        simp only [Act.put, pa]; try dsimp only [List.set]
        refine readyS [12] ?_
        refine detS undef [boxW qa910 4 2 ⟨#[]⟩, boxE qe915, heapR h (HX [rowO kd hok P, rowO kd hok (P.take p)])] (h1 := fun Wx hSw => by (have hz := hSw.box (b := qe915) (o := objE) 1 rfl; refine useZ5 hz fun z0 z1 z2 z3 z4 y0 y1 y2 y3 y4 => ?_; go_simp; exact ⟨rfl, hSw.set5 1 rfl (.string ⟨#[]⟩) (.int .i64 0) (.int .i64 0) (.string ⟨#[]⟩) (.bool false)⟩)) (h2 := ?_) (hs := nilS)
        simp only [Act.put, pa]; try dsimp only [List.set]
        refine doneS (h := fun w11 S => ?_)
        go_wp2_with fail
        as_aux_lemma => (go_meet; exact ⟨_, _, rfl, rfl, S⟩)
      exact nilS
    refine allocS 1 rfl (fun q => .pointer (some ⟨q, 0, none⟩)) (.cells #[.string ⟨#[]⟩, .int .i64 0, .int .i64 0, .string ⟨#[]⟩, .bool false] 38) (h1 := fun Wx => by go_simp) (h2 := fun qe919 => ?_) (hs := ?_)
    · simp only [Act.put, pa]; try dsimp only [List.set]
      try simp only [List.set_cons_zero, List.set_cons_succ]
      refine readyS [5, 9] ?_
      refine detS (.tuple #[.agg #[.int .i64 4, .int .i64 2, .string ⟨#[]⟩], excZ]) [emptyR, boxE qe919, heapR h (HX [rowO kd hok P, rowO kd hok (P.take p)])] (h1 := fun Wx hSw => by (go_simp; refine symCall ?_; exact sl_rows hSw 2 rfl (HG1.out.good (by simp)) (by decide) (vX 1 (by decide)) V.zero (vI at_ HAT.out) (rowB_of (kd := kd) rfl HKD.out) 0 at_ rfl rfl (by decide) HAT.out rfl rfl (P.take p) (by rw [HPP.out]; exact slice_at P at_ (by have := H8.out; omega) HAT.out) (by rw [List.length_take]; have := H8.out; omega))) (h2 := ?_) (hs := ?_)
      · simp only [Act.put, pa]; try dsimp only [List.set]
        refine quietS 6 ?_
        simp only [Act.put, pa]; try dsimp only [List.set]
        refine quietS 7 ?_
        simp only [Act.put, pa]; try dsimp only [List.set]
        refine quietS 8 ?_
        simp only [Act.put, pa]; try dsimp only [List.set]
        refine readyS [9] ?_
        refine allocS 0 rfl (fun q => .pointer (some ⟨q, 0, none⟩)) (.cells #[.int .i64 0, .int .i64 0, .string ⟨#[]⟩] 29) (h1 := fun Wx => by go_simp) (h2 := fun qa921 => ?_) (hs := nilS)
        simp only [Act.put, pa]; try dsimp only [List.set]
        try simp only [List.set_cons_zero, List.set_cons_succ]
        refine readyS [11] ?_
        refine detS undef [boxW qa921 4 2 ⟨#[]⟩, boxE qe919, heapR h (HX [rowO kd hok P, rowO kd hok (P.take p)])] (h1 := fun Wx hSw => by (have hz := hSw.box (b := qa921) (o := objZ) 0 rfl; refine useZ3 hz fun z0 z1 z2 y0 y1 y2 => ?_; go_simp; exact ⟨rfl, hSw.set3 0 rfl (.int .i64 4) (.int .i64 2) (.string ⟨#[]⟩)⟩)) (h2 := ?_) (hs := nilS)
        simp only [Act.put, pa]; try dsimp only [List.set]
        refine readyS [12] ?_
        refine detS undef [boxW qa921 4 2 ⟨#[]⟩, boxE qe919, heapR h (HX [rowO kd hok P, rowO kd hok (P.take p)])] (h1 := fun Wx hSw => by (have hz := hSw.box (b := qe919) (o := objE) 1 rfl; refine useZ5 hz fun z0 z1 z2 z3 z4 y0 y1 y2 y3 y4 => ?_; go_simp; exact ⟨rfl, hSw.set5 1 rfl (.string ⟨#[]⟩) (.int .i64 0) (.int .i64 0) (.string ⟨#[]⟩) (.bool false)⟩)) (h2 := ?_) (hs := nilS)
        simp only [Act.put, pa]; try dsimp only [List.set]
        refine doneS (h := fun w11 S => ?_)
        go_wp2_with fail
        as_aux_lemma => (go_meet; exact ⟨_, _, rfl, rfl, S⟩)
      refine allocS 0 rfl (fun q => .pointer (some ⟨q, 0, none⟩)) (.cells #[.int .i64 0, .int .i64 0, .string ⟨#[]⟩] 29) (h1 := fun Wx => by go_simp) (h2 := fun qa924 => ?_) (hs := ?_)
      · simp only [Act.put, pa]; try dsimp only [List.set]
        try simp only [List.set_cons_zero, List.set_cons_succ]
        refine readyS [5] ?_
        refine detS (.tuple #[.agg #[.int .i64 4, .int .i64 2, .string ⟨#[]⟩], excZ]) [boxZ qa924, boxE qe919, heapR h (HX [rowO kd hok P, rowO kd hok (P.take p)])] (h1 := fun Wx hSw => by (go_simp; refine symCall ?_; exact sl_rows hSw 2 rfl (HG1.out.good (by simp)) (by decide) (vX 1 (by decide)) V.zero (vI at_ HAT.out) (rowB_of (kd := kd) rfl HKD.out) 0 at_ rfl rfl (by decide) HAT.out rfl rfl (P.take p) (by rw [HPP.out]; exact slice_at P at_ (by have := H8.out; omega) HAT.out) (by rw [List.length_take]; have := H8.out; omega))) (h2 := ?_) (hs := nilS)
        simp only [Act.put, pa]; try dsimp only [List.set]
        refine quietS 6 ?_
        simp only [Act.put, pa]; try dsimp only [List.set]
        refine quietS 7 ?_
        simp only [Act.put, pa]; try dsimp only [List.set]
        refine quietS 8 ?_
        simp only [Act.put, pa]; try dsimp only [List.set]
        refine readyS [11] ?_
        refine detS undef [boxW qa924 4 2 ⟨#[]⟩, boxE qe919, heapR h (HX [rowO kd hok P, rowO kd hok (P.take p)])] (h1 := fun Wx hSw => by (have hz := hSw.box (b := qa924) (o := objZ) 0 rfl; refine useZ3 hz fun z0 z1 z2 y0 y1 y2 => ?_; go_simp; exact ⟨rfl, hSw.set3 0 rfl (.int .i64 4) (.int .i64 2) (.string ⟨#[]⟩)⟩)) (h2 := ?_) (hs := nilS)
        simp only [Act.put, pa]; try dsimp only [List.set]
        refine readyS [12] ?_
        refine detS undef [boxW qa924 4 2 ⟨#[]⟩, boxE qe919, heapR h (HX [rowO kd hok P, rowO kd hok (P.take p)])] (h1 := fun Wx hSw => by (have hz := hSw.box (b := qe919) (o := objE) 1 rfl; refine useZ5 hz fun z0 z1 z2 z3 z4 y0 y1 y2 y3 y4 => ?_; go_simp; exact ⟨rfl, hSw.set5 1 rfl (.string ⟨#[]⟩) (.int .i64 0) (.int .i64 0) (.string ⟨#[]⟩) (.bool false)⟩)) (h2 := ?_) (hs := nilS)
        simp only [Act.put, pa]; try dsimp only [List.set]
        refine doneS (h := fun w11 S => ?_)
        go_wp2_with fail
        as_aux_lemma => (go_meet; exact ⟨_, _, rfl, rfl, S⟩)
      exact nilS
    exact nilS
  case rest =>
    obtain ⟨qq0_9, qq1_9, rfl, rfl, S⟩ := hcut
    replace S : Sep w (boxW qq0_9 4 2 ⟨#[]⟩ :: boxE qq1_9 :: heapR h (HX [rowO kd hok P, rowO kd hok (P.take p)]) :: boxW qv1 4 1 ⟨#[]⟩ :: []) wc := by rw [Hb9_9.out] at S; exact S
    clear Hb9_9 Kb9_9 K9_4 Cb9_9_0
    have HG3 : Hid (HXG [rowO kd hok P, rowO kd hok (P.take p), rowO kd hok (P.drop p)]) := Lib.hid (HG2.out.snoc (by rw [List.length_drop]; have := H8.out; omega))
    replace S : Sep w (heapR h (HX [rowO kd hok P, rowO kd hok (P.take p)]) :: boxW qq0_9 4 2 ⟨#[]⟩ :: boxE qq1_9 :: boxW qv1 4 1 ⟨#[]⟩ :: []) (wc) := by
      refine (show Sep w ([boxW qq0_9 4 2 ⟨#[]⟩, boxE qq1_9, heapR h (HX [rowO kd hok P, rowO kd hok (P.take p)]), boxW qv1 4 1 ⟨#[]⟩] ++ []) _ from S).perm ?_
      exact List.Perm.append_right [] (perm_of (l := [boxW qq0_9 4 2 ⟨#[]⟩, boxE qq1_9, heapR h (HX [rowO kd hok P, rowO kd hok (P.take p)]), boxW qv1 4 1 ⟨#[]⟩]) [2, 0, 1, 3] (by show (List.range' 0 4).Perm [2, 0, 1, 3]; decide) (by rfl))
    refine named (boxW qq0_9 4 2 ⟨#[]⟩ :: boxE qq1_9 :: boxW qv1 4 1 ⟨#[]⟩ :: [] : List Res) fun b10_11 hb10_11 => ?_
    have Hb10_11 := Lib.hid hb10_11
    have Kb10_11 : Hid (∀ W (Q : List Res), Sep w (Q ++ b10_11) W → True) := Lib.hid fun W Q T => by
      rw [hb10_11] at T
      trivial
    have Cb10_11_0 : Hid (∀ W (Q : List Res), Sep w (Q ++ b10_11) W → W.cell? ⟨qv1, 0, none⟩ = some (.int .i64 4) ∧ W.cell? ⟨qv1, 1, none⟩ = some (.int .i64 1) ∧ W.cell? ⟨qv1, 2, none⟩ = some (.string ⟨#[]⟩)) := Lib.hid fun W Q T => by
      rw [hb10_11] at T
      have i0 := T.box (b := qv1) (o := objW 4 1 ⟨#[]⟩) (Q.length + 2) (by rw [List.getElem?_append_right (by omega), Nat.add_sub_cancel_left]; rfl)
      exact ⟨cellAt i0 0 rfl, cellAt i0 1 rfl, cellAt i0 2 rfl⟩
    have K10_3 : Hid (∀ W (Q : List Res), Sep w (Q ++ b10_11) W → Calls Tryz.prog 16 #[.int .i64 at_] W fun e W' => e = .returned (.agg #[.int .i64 2, .int .i64 at_, .string ⟨#[]⟩]) ∧ Sep w (Q ++ b10_11) W') := Lib.hid fun W Q T => by
      exact (lnum_ok W at_).mono fun e W' ⟨e1, e2⟩ => ⟨e1, T.later e2⟩
    replace S := Lib.hid S
    clear hb10_11
    go_upto_region 10 with fail
    go_cut [15, 16] (fun s15 s16 wx => ∃ qq0_10 qq1_10, s15 = .pointer (some ⟨qq0_10, 0, none⟩) ∧ s16 = .pointer (some ⟨qq1_10, 0, none⟩) ∧ Sep w ([boxW qq0_10 4 3 ⟨#[]⟩, boxE qq1_10, heapR h (HX [rowO kd hok P, rowO kd hok (P.take p), rowO kd hok (P.drop p)])] ++ b10_11) wx)
    case first =>
      have S1 : Sep w ([heapR h (HX [rowO kd hok P, rowO kd hok (P.take p)])] ++ b10_11) (wc) := by rw [Hb10_11.out]; exact S.out
      clear S
      refine regionP 5 8 (E := [emptyR, emptyR, heapR h (HX [rowO kd hok P, rowO kd hok (P.take p)])]) (base := b10_11) (Sep.putE (Sep.putE S1)) ?_
      clear S1
      refine quietP ?_
      simp only [Act.put, pa]; try dsimp only [List.set]
      refine quietP (hy := fun E Wx hSw => by ((refine and3 (Cb10_11_0.out _ _ hSw) fun u0 u1 u2 => ?_); go_simp; exact ⟨rfl, hSw⟩)) (h := ?_)
      simp only [Act.put, pa]; try dsimp only [List.set]
      refine quietP ?_
      simp only [Act.put, pa]; try dsimp only [List.set]
      refine quietP (hy := fun E Wx hSw => by (go_simp; exact symCall (K10_3.out _ _ hSw))) (h := ?_)
      simp only [Act.put, pa]; try dsimp only [List.set]
      refine quietP ?_
      simp only [Act.put, pa]; try dsimp only [List.set]
      refine endP ?_
      refine readyS [5, 9, 10] ?_
      refine detS (.tuple #[.agg #[.int .i64 4, .int .i64 3, .string ⟨#[]⟩], excZ]) [emptyR, emptyR, heapR h (HX [rowO kd hok P, rowO kd hok (P.take p), rowO kd hok (P.drop p)])] (h1 := fun Wx hSw => by (go_simp; refine symCall ?_; exact sl_rows hSw 2 rfl (HG2.out.good (by simp)) (by decide) (vX 1 (by decide)) (vI at_ HAT.out) V.zero (rowB_of (kd := kd) rfl HKD.out) at_ (P.length : Nat) rfl rfl HAT.out (okI_of (by have := H8.out; omega)) rfl rfl (P.drop p) (by rw [HPP.out]; exact slice_end P at_ (by have := H8.out; omega) HAT.out) (by rw [List.length_drop]; have := H8.out; omega))) (h2 := ?_) (hs := ?_)
      · simp only [Act.put, pa]; try dsimp only [List.set]
        refine quietS 6 ?_
        simp only [Act.put, pa]; try dsimp only [List.set]
        refine quietS 7 ?_
        simp only [Act.put, pa]; try dsimp only [List.set]
        refine quietS 8 ?_
        simp only [Act.put, pa]; try dsimp only [List.set]
        refine readyS [9, 10] ?_
        refine allocS 0 rfl (fun q => .pointer (some ⟨q, 0, none⟩)) (.cells #[.int .i64 0, .int .i64 0, .string ⟨#[]⟩] 29) (h1 := fun Wx => by go_simp) (h2 := fun qa102 => ?_) (hs := ?_)
        · simp only [Act.put, pa]; try dsimp only [List.set]
          try simp only [List.set_cons_zero, List.set_cons_succ]
          refine readyS [10] ?_
          refine allocS 1 rfl (fun q => .pointer (some ⟨q, 0, none⟩)) (.cells #[.string ⟨#[]⟩, .int .i64 0, .int .i64 0, .string ⟨#[]⟩, .bool false] 38) (h1 := fun Wx => by go_simp) (h2 := fun qe103 => ?_) (hs := nilS)
          simp only [Act.put, pa]; try dsimp only [List.set]
          try simp only [List.set_cons_zero, List.set_cons_succ]
          refine readyS [11] ?_
          refine detS undef [boxW qa102 4 3 ⟨#[]⟩, boxE qe103, heapR h (HX [rowO kd hok P, rowO kd hok (P.take p), rowO kd hok (P.drop p)])] (h1 := fun Wx hSw => by (have hz := hSw.box (b := qa102) (o := objZ) 0 rfl; refine useZ3 hz fun z0 z1 z2 y0 y1 y2 => ?_; go_simp; exact ⟨rfl, hSw.set3 0 rfl (.int .i64 4) (.int .i64 3) (.string ⟨#[]⟩)⟩)) (h2 := ?_) (hs := nilS)
          simp only [Act.put, pa]; try dsimp only [List.set]
          refine readyS [12] ?_
          refine detS undef [boxW qa102 4 3 ⟨#[]⟩, boxE qe103, heapR h (HX [rowO kd hok P, rowO kd hok (P.take p), rowO kd hok (P.drop p)])] (h1 := fun Wx hSw => by (have hz := hSw.box (b := qe103) (o := objE) 1 rfl; refine useZ5 hz fun z0 z1 z2 z3 z4 y0 y1 y2 y3 y4 => ?_; go_simp; exact ⟨rfl, hSw.set5 1 rfl (.string ⟨#[]⟩) (.int .i64 0) (.int .i64 0) (.string ⟨#[]⟩) (.bool false)⟩)) (h2 := ?_) (hs := nilS)
          simp only [Act.put, pa]; try dsimp only [List.set]
          refine doneS (h := fun w13 S => ?_)
          go_wp2_with fail
          as_aux_lemma => (go_meet; exact ⟨_, _, rfl, rfl, S⟩)
        refine allocS 1 rfl (fun q => .pointer (some ⟨q, 0, none⟩)) (.cells #[.string ⟨#[]⟩, .int .i64 0, .int .i64 0, .string ⟨#[]⟩, .bool false] 38) (h1 := fun Wx => by go_simp) (h2 := fun qe106 => ?_) (hs := ?_)
        · simp only [Act.put, pa]; try dsimp only [List.set]
          try simp only [List.set_cons_zero, List.set_cons_succ]
          refine readyS [9] ?_
          refine allocS 0 rfl (fun q => .pointer (some ⟨q, 0, none⟩)) (.cells #[.int .i64 0, .int .i64 0, .string ⟨#[]⟩] 29) (h1 := fun Wx => by go_simp) (h2 := fun qa107 => ?_) (hs := nilS)
          simp only [Act.put, pa]; try dsimp only [List.set]
          try simp only [List.set_cons_zero, List.set_cons_succ]
          refine readyS [11] ?_
          refine detS undef [boxW qa107 4 3 ⟨#[]⟩, boxE qe106, heapR h (HX [rowO kd hok P, rowO kd hok (P.take p), rowO kd hok (P.drop p)])] (h1 := fun Wx hSw => by (have hz := hSw.box (b := qa107) (o := objZ) 0 rfl; refine useZ3 hz fun z0 z1 z2 y0 y1 y2 => ?_; go_simp; exact ⟨rfl, hSw.set3 0 rfl (.int .i64 4) (.int .i64 3) (.string ⟨#[]⟩)⟩)) (h2 := ?_) (hs := nilS)
          simp only [Act.put, pa]; try dsimp only [List.set]
          refine readyS [12] ?_
          refine detS undef [boxW qa107 4 3 ⟨#[]⟩, boxE qe106, heapR h (HX [rowO kd hok P, rowO kd hok (P.take p), rowO kd hok (P.drop p)])] (h1 := fun Wx hSw => by (have hz := hSw.box (b := qe106) (o := objE) 1 rfl; refine useZ5 hz fun z0 z1 z2 z3 z4 y0 y1 y2 y3 y4 => ?_; go_simp; exact ⟨rfl, hSw.set5 1 rfl (.string ⟨#[]⟩) (.int .i64 0) (.int .i64 0) (.string ⟨#[]⟩) (.bool false)⟩)) (h2 := ?_) (hs := nilS)
          simp only [Act.put, pa]; try dsimp only [List.set]
          refine doneS (h := fun w13 S => ?_)
          go_wp2_with fail
          as_aux_lemma => (go_meet; exact ⟨_, _, rfl, rfl, S⟩)
        exact nilS
      refine allocS 0 rfl (fun q => .pointer (some ⟨q, 0, none⟩)) (.cells #[.int .i64 0, .int .i64 0, .string ⟨#[]⟩] 29) (h1 := fun Wx => by go_simp) (h2 := fun qa1010 => ?_) (hs := ?_)
      · simp only [Act.put, pa]; try dsimp only [List.set]
        try simp only [List.set_cons_zero, List.set_cons_succ]
        refine readyS [5, 10] ?_
        refine detS (.tuple #[.agg #[.int .i64 4, .int .i64 3, .string ⟨#[]⟩], excZ]) [boxZ qa1010, emptyR, heapR h (HX [rowO kd hok P, rowO kd hok (P.take p), rowO kd hok (P.drop p)])] (h1 := fun Wx hSw => by (go_simp; refine symCall ?_; exact sl_rows hSw 2 rfl (HG2.out.good (by simp)) (by decide) (vX 1 (by decide)) (vI at_ HAT.out) V.zero (rowB_of (kd := kd) rfl HKD.out) at_ (P.length : Nat) rfl rfl HAT.out (okI_of (by have := H8.out; omega)) rfl rfl (P.drop p) (by rw [HPP.out]; exact slice_end P at_ (by have := H8.out; omega) HAT.out) (by rw [List.length_drop]; have := H8.out; omega))) (h2 := ?_) (hs := ?_)
        · simp only [Act.put, pa]; try dsimp only [List.set]
          refine quietS 6 ?_
          simp only [Act.put, pa]; try dsimp only [List.set]
          refine quietS 7 ?_
          simp only [Act.put, pa]; try dsimp only [List.set]
          refine quietS 8 ?_
          simp only [Act.put, pa]; try dsimp only [List.set]
          refine readyS [10] ?_
          refine allocS 1 rfl (fun q => .pointer (some ⟨q, 0, none⟩)) (.cells #[.string ⟨#[]⟩, .int .i64 0, .int .i64 0, .string ⟨#[]⟩, .bool false] 38) (h1 := fun Wx => by go_simp) (h2 := fun qe1012 => ?_) (hs := nilS)
          simp only [Act.put, pa]; try dsimp only [List.set]
          try simp only [List.set_cons_zero, List.set_cons_succ]
          refine readyS [11] ?_
          refine detS undef [boxW qa1010 4 3 ⟨#[]⟩, boxE qe1012, heapR h (HX [rowO kd hok P, rowO kd hok (P.take p), rowO kd hok (P.drop p)])] (h1 := fun Wx hSw => by (have hz := hSw.box (b := qa1010) (o := objZ) 0 rfl; refine useZ3 hz fun z0 z1 z2 y0 y1 y2 => ?_; go_simp; exact ⟨rfl, hSw.set3 0 rfl (.int .i64 4) (.int .i64 3) (.string ⟨#[]⟩)⟩)) (h2 := ?_) (hs := nilS)
          simp only [Act.put, pa]; try dsimp only [List.set]
          refine readyS [12] ?_
          refine detS undef [boxW qa1010 4 3 ⟨#[]⟩, boxE qe1012, heapR h (HX [rowO kd hok P, rowO kd hok (P.take p), rowO kd hok (P.drop p)])] (h1 := fun Wx hSw => by (have hz := hSw.box (b := qe1012) (o := objE) 1 rfl; refine useZ5 hz fun z0 z1 z2 z3 z4 y0 y1 y2 y3 y4 => ?_; go_simp; exact ⟨rfl, hSw.set5 1 rfl (.string ⟨#[]⟩) (.int .i64 0) (.int .i64 0) (.string ⟨#[]⟩) (.bool false)⟩)) (h2 := ?_) (hs := nilS)
          simp only [Act.put, pa]; try dsimp only [List.set]
          refine doneS (h := fun w13 S => ?_)
          go_wp2_with fail
          as_aux_lemma => (go_meet; exact ⟨_, _, rfl, rfl, S⟩)
        refine allocS 1 rfl (fun q => .pointer (some ⟨q, 0, none⟩)) (.cells #[.string ⟨#[]⟩, .int .i64 0, .int .i64 0, .string ⟨#[]⟩, .bool false] 38) (h1 := fun Wx => by go_simp) (h2 := fun qe1015 => ?_) (hs := ?_)
        · simp only [Act.put, pa]; try dsimp only [List.set]
          try simp only [List.set_cons_zero, List.set_cons_succ]
          refine readyS [5] ?_
          refine detS (.tuple #[.agg #[.int .i64 4, .int .i64 3, .string ⟨#[]⟩], excZ]) [boxZ qa1010, boxE qe1015, heapR h (HX [rowO kd hok P, rowO kd hok (P.take p), rowO kd hok (P.drop p)])] (h1 := fun Wx hSw => by (go_simp; refine symCall ?_; exact sl_rows hSw 2 rfl (HG2.out.good (by simp)) (by decide) (vX 1 (by decide)) (vI at_ HAT.out) V.zero (rowB_of (kd := kd) rfl HKD.out) at_ (P.length : Nat) rfl rfl HAT.out (okI_of (by have := H8.out; omega)) rfl rfl (P.drop p) (by rw [HPP.out]; exact slice_end P at_ (by have := H8.out; omega) HAT.out) (by rw [List.length_drop]; have := H8.out; omega))) (h2 := ?_) (hs := nilS)
          simp only [Act.put, pa]; try dsimp only [List.set]
          refine quietS 6 ?_
          simp only [Act.put, pa]; try dsimp only [List.set]
          refine quietS 7 ?_
          simp only [Act.put, pa]; try dsimp only [List.set]
          refine quietS 8 ?_
          simp only [Act.put, pa]; try dsimp only [List.set]
          refine readyS [11] ?_
          refine detS undef [boxW qa1010 4 3 ⟨#[]⟩, boxE qe1015, heapR h (HX [rowO kd hok P, rowO kd hok (P.take p), rowO kd hok (P.drop p)])] (h1 := fun Wx hSw => by (have hz := hSw.box (b := qa1010) (o := objZ) 0 rfl; refine useZ3 hz fun z0 z1 z2 y0 y1 y2 => ?_; go_simp; exact ⟨rfl, hSw.set3 0 rfl (.int .i64 4) (.int .i64 3) (.string ⟨#[]⟩)⟩)) (h2 := ?_) (hs := nilS)
          simp only [Act.put, pa]; try dsimp only [List.set]
          refine readyS [12] ?_
          refine detS undef [boxW qa1010 4 3 ⟨#[]⟩, boxE qe1015, heapR h (HX [rowO kd hok P, rowO kd hok (P.take p), rowO kd hok (P.drop p)])] (h1 := fun Wx hSw => by (have hz := hSw.box (b := qe1015) (o := objE) 1 rfl; refine useZ5 hz fun z0 z1 z2 z3 z4 y0 y1 y2 y3 y4 => ?_; go_simp; exact ⟨rfl, hSw.set5 1 rfl (.string ⟨#[]⟩) (.int .i64 0) (.int .i64 0) (.string ⟨#[]⟩) (.bool false)⟩)) (h2 := ?_) (hs := nilS)
          simp only [Act.put, pa]; try dsimp only [List.set]
          refine doneS (h := fun w13 S => ?_)
          go_wp2_with fail
          as_aux_lemma => (go_meet; exact ⟨_, _, rfl, rfl, S⟩)
        exact nilS
      refine allocS 1 rfl (fun q => .pointer (some ⟨q, 0, none⟩)) (.cells #[.string ⟨#[]⟩, .int .i64 0, .int .i64 0, .string ⟨#[]⟩, .bool false] 38) (h1 := fun Wx => by go_simp) (h2 := fun qe1019 => ?_) (hs := ?_)
      · simp only [Act.put, pa]; try dsimp only [List.set]
        try simp only [List.set_cons_zero, List.set_cons_succ]
        refine readyS [5, 9] ?_
        refine detS (.tuple #[.agg #[.int .i64 4, .int .i64 3, .string ⟨#[]⟩], excZ]) [emptyR, boxE qe1019, heapR h (HX [rowO kd hok P, rowO kd hok (P.take p), rowO kd hok (P.drop p)])] (h1 := fun Wx hSw => by (go_simp; refine symCall ?_; exact sl_rows hSw 2 rfl (HG2.out.good (by simp)) (by decide) (vX 1 (by decide)) (vI at_ HAT.out) V.zero (rowB_of (kd := kd) rfl HKD.out) at_ (P.length : Nat) rfl rfl HAT.out (okI_of (by have := H8.out; omega)) rfl rfl (P.drop p) (by rw [HPP.out]; exact slice_end P at_ (by have := H8.out; omega) HAT.out) (by rw [List.length_drop]; have := H8.out; omega))) (h2 := ?_) (hs := ?_)
        · simp only [Act.put, pa]; try dsimp only [List.set]
          refine quietS 6 ?_
          simp only [Act.put, pa]; try dsimp only [List.set]
          refine quietS 7 ?_
          simp only [Act.put, pa]; try dsimp only [List.set]
          refine quietS 8 ?_
          simp only [Act.put, pa]; try dsimp only [List.set]
          refine readyS [9] ?_
          refine allocS 0 rfl (fun q => .pointer (some ⟨q, 0, none⟩)) (.cells #[.int .i64 0, .int .i64 0, .string ⟨#[]⟩] 29) (h1 := fun Wx => by go_simp) (h2 := fun qa1021 => ?_) (hs := nilS)
          simp only [Act.put, pa]; try dsimp only [List.set]
          try simp only [List.set_cons_zero, List.set_cons_succ]
          refine readyS [11] ?_
          refine detS undef [boxW qa1021 4 3 ⟨#[]⟩, boxE qe1019, heapR h (HX [rowO kd hok P, rowO kd hok (P.take p), rowO kd hok (P.drop p)])] (h1 := fun Wx hSw => by (have hz := hSw.box (b := qa1021) (o := objZ) 0 rfl; refine useZ3 hz fun z0 z1 z2 y0 y1 y2 => ?_; go_simp; exact ⟨rfl, hSw.set3 0 rfl (.int .i64 4) (.int .i64 3) (.string ⟨#[]⟩)⟩)) (h2 := ?_) (hs := nilS)
          simp only [Act.put, pa]; try dsimp only [List.set]
          refine readyS [12] ?_
          refine detS undef [boxW qa1021 4 3 ⟨#[]⟩, boxE qe1019, heapR h (HX [rowO kd hok P, rowO kd hok (P.take p), rowO kd hok (P.drop p)])] (h1 := fun Wx hSw => by (have hz := hSw.box (b := qe1019) (o := objE) 1 rfl; refine useZ5 hz fun z0 z1 z2 z3 z4 y0 y1 y2 y3 y4 => ?_; go_simp; exact ⟨rfl, hSw.set5 1 rfl (.string ⟨#[]⟩) (.int .i64 0) (.int .i64 0) (.string ⟨#[]⟩) (.bool false)⟩)) (h2 := ?_) (hs := nilS)
          simp only [Act.put, pa]; try dsimp only [List.set]
          refine doneS (h := fun w13 S => ?_)
          go_wp2_with fail
          as_aux_lemma => (go_meet; exact ⟨_, _, rfl, rfl, S⟩)
        refine allocS 0 rfl (fun q => .pointer (some ⟨q, 0, none⟩)) (.cells #[.int .i64 0, .int .i64 0, .string ⟨#[]⟩] 29) (h1 := fun Wx => by go_simp) (h2 := fun qa1024 => ?_) (hs := ?_)
        · simp only [Act.put, pa]; try dsimp only [List.set]
          try simp only [List.set_cons_zero, List.set_cons_succ]
          refine readyS [5] ?_
          refine detS (.tuple #[.agg #[.int .i64 4, .int .i64 3, .string ⟨#[]⟩], excZ]) [boxZ qa1024, boxE qe1019, heapR h (HX [rowO kd hok P, rowO kd hok (P.take p), rowO kd hok (P.drop p)])] (h1 := fun Wx hSw => by (go_simp; refine symCall ?_; exact sl_rows hSw 2 rfl (HG2.out.good (by simp)) (by decide) (vX 1 (by decide)) (vI at_ HAT.out) V.zero (rowB_of (kd := kd) rfl HKD.out) at_ (P.length : Nat) rfl rfl HAT.out (okI_of (by have := H8.out; omega)) rfl rfl (P.drop p) (by rw [HPP.out]; exact slice_end P at_ (by have := H8.out; omega) HAT.out) (by rw [List.length_drop]; have := H8.out; omega))) (h2 := ?_) (hs := nilS)
          simp only [Act.put, pa]; try dsimp only [List.set]
          refine quietS 6 ?_
          simp only [Act.put, pa]; try dsimp only [List.set]
          refine quietS 7 ?_
          simp only [Act.put, pa]; try dsimp only [List.set]
          refine quietS 8 ?_
          simp only [Act.put, pa]; try dsimp only [List.set]
          refine readyS [11] ?_
          refine detS undef [boxW qa1024 4 3 ⟨#[]⟩, boxE qe1019, heapR h (HX [rowO kd hok P, rowO kd hok (P.take p), rowO kd hok (P.drop p)])] (h1 := fun Wx hSw => by (have hz := hSw.box (b := qa1024) (o := objZ) 0 rfl; refine useZ3 hz fun z0 z1 z2 y0 y1 y2 => ?_; go_simp; exact ⟨rfl, hSw.set3 0 rfl (.int .i64 4) (.int .i64 3) (.string ⟨#[]⟩)⟩)) (h2 := ?_) (hs := nilS)
          simp only [Act.put, pa]; try dsimp only [List.set]
          refine readyS [12] ?_
          refine detS undef [boxW qa1024 4 3 ⟨#[]⟩, boxE qe1019, heapR h (HX [rowO kd hok P, rowO kd hok (P.take p), rowO kd hok (P.drop p)])] (h1 := fun Wx hSw => by (have hz := hSw.box (b := qe1019) (o := objE) 1 rfl; refine useZ5 hz fun z0 z1 z2 z3 z4 y0 y1 y2 y3 y4 => ?_; go_simp; exact ⟨rfl, hSw.set5 1 rfl (.string ⟨#[]⟩) (.int .i64 0) (.int .i64 0) (.string ⟨#[]⟩) (.bool false)⟩)) (h2 := ?_) (hs := nilS)
          simp only [Act.put, pa]; try dsimp only [List.set]
          refine doneS (h := fun w13 S => ?_)
          go_wp2_with fail
          as_aux_lemma => (go_meet; exact ⟨_, _, rfl, rfl, S⟩)
        exact nilS
      exact nilS
    case rest =>
      obtain ⟨qq0_10, qq1_10, rfl, rfl, S⟩ := hcut
      replace S : Sep w (boxW qq0_10 4 3 ⟨#[]⟩ :: boxE qq1_10 :: heapR h (HX [rowO kd hok P, rowO kd hok (P.take p), rowO kd hok (P.drop p)]) :: boxW qq0_9 4 2 ⟨#[]⟩ :: boxE qq1_9 :: boxW qv1 4 1 ⟨#[]⟩ :: []) wc := by rw [Hb10_11.out] at S; exact S
      clear Hb10_11 Kb10_11 K10_3 Cb10_11_0
      have HG4 : Hid (HXG [rowO kd hok P, rowO kd hok (P.take p), rowO kd hok (P.drop p), rowO kd hok P]) := Lib.hid (HG3.out.snoc (by have := H8.out; omega))
      replace S : Sep w (heapR h (HX [rowO kd hok P, rowO kd hok (P.take p), rowO kd hok (P.drop p)]) :: boxW qq0_10 4 3 ⟨#[]⟩ :: boxE qq1_10 :: boxW qq0_9 4 2 ⟨#[]⟩ :: boxE qq1_9 :: boxW qv1 4 1 ⟨#[]⟩ :: []) (wc) := by
        refine (show Sep w ([boxW qq0_10 4 3 ⟨#[]⟩, boxE qq1_10, heapR h (HX [rowO kd hok P, rowO kd hok (P.take p), rowO kd hok (P.drop p)]), boxW qq0_9 4 2 ⟨#[]⟩, boxE qq1_9, boxW qv1 4 1 ⟨#[]⟩] ++ []) _ from S).perm ?_
        exact List.Perm.append_right [] (perm_of (l := [boxW qq0_10 4 3 ⟨#[]⟩, boxE qq1_10, heapR h (HX [rowO kd hok P, rowO kd hok (P.take p), rowO kd hok (P.drop p)]), boxW qq0_9 4 2 ⟨#[]⟩, boxE qq1_9, boxW qv1 4 1 ⟨#[]⟩]) [2, 0, 1, 3, 4, 5] (by show (List.range' 0 6).Perm [2, 0, 1, 3, 4, 5]; decide) (by rfl))
      refine named (boxW qq0_10 4 3 ⟨#[]⟩ :: boxE qq1_10 :: boxW qq0_9 4 2 ⟨#[]⟩ :: boxE qq1_9 :: boxW qv1 4 1 ⟨#[]⟩ :: [] : List Res) fun b11_13 hb11_13 => ?_
      have Hb11_13 := Lib.hid hb11_13
      have Kb11_13 : Hid (∀ W (Q : List Res), Sep w (Q ++ b11_13) W → True) := Lib.hid fun W Q T => by
        rw [hb11_13] at T
        trivial
      have Cb11_13_0 : Hid (∀ W (Q : List Res), Sep w (Q ++ b11_13) W → W.cell? ⟨qq0_10, 0, none⟩ = some (.int .i64 4) ∧ W.cell? ⟨qq0_10, 1, none⟩ = some (.int .i64 3) ∧ W.cell? ⟨qq0_10, 2, none⟩ = some (.string ⟨#[]⟩)) := Lib.hid fun W Q T => by
        rw [hb11_13] at T
        have i0 := T.box (b := qq0_10) (o := objW 4 3 ⟨#[]⟩) (Q.length + 0) (by rw [List.getElem?_append_right (by omega), Nat.add_sub_cancel_left]; rfl)
        exact ⟨cellAt i0 0 rfl, cellAt i0 1 rfl, cellAt i0 2 rfl⟩
      have Cb11_13_1 : Hid (∀ W (Q : List Res), Sep w (Q ++ b11_13) W → W.cell? ⟨qq0_9, 0, none⟩ = some (.int .i64 4) ∧ W.cell? ⟨qq0_9, 1, none⟩ = some (.int .i64 2) ∧ W.cell? ⟨qq0_9, 2, none⟩ = some (.string ⟨#[]⟩)) := Lib.hid fun W Q T => by
        rw [hb11_13] at T
        have i0 := T.box (b := qq0_9) (o := objW 4 2 ⟨#[]⟩) (Q.length + 2) (by rw [List.getElem?_append_right (by omega), Nat.add_sub_cancel_left]; rfl)
        exact ⟨cellAt i0 0 rfl, cellAt i0 1 rfl, cellAt i0 2 rfl⟩
      replace S := Lib.hid S
      clear hb11_13
      go_upto_region 11 with fail
      have S1 : Sep w ([heapR h (HX [rowO kd hok P, rowO kd hok (P.take p), rowO kd hok (P.drop p)])] ++ b11_13) (wc) := by rw [Hb11_13.out]; exact S.out
      clear S
      refine regionL (E := [emptyR, emptyR, heapR h (HX [rowO kd hok P, rowO kd hok (P.take p), rowO kd hok (P.drop p)])]) (base := b11_13) (Sep.putE (Sep.putE S1)) ?_
      clear S1
      refine quietL ?_
      simp only [Act.put, pa]; try dsimp only [List.set]
      refine quietL (hy := fun E Wx hSw => by ((refine and3 (Cb11_13_1.out _ _ hSw) fun u0 u1 u2 => ?_); go_simp; exact ⟨rfl, hSw⟩)) (h := ?_)
      simp only [Act.put, pa]; try dsimp only [List.set]
      refine quietL (hy := fun E Wx hSw => by ((refine and3 (Cb11_13_0.out _ _ hSw) fun u0 u1 u2 => ?_); go_simp; exact ⟨rfl, hSw⟩)) (h := ?_)
      simp only [Act.put, pa]; try dsimp only [List.set]
      refine detL (.tuple #[.agg #[.int .i64 4, .int .i64 4, .string ⟨#[]⟩], excZ]) [emptyR, emptyR, heapR h (HX [rowO kd hok P, rowO kd hok (P.take p), rowO kd hok (P.drop p), rowO kd hok P])] (h1 := fun Wx hSw => by (go_simp; refine symCall ?_; exact bin_add_rows hSw 2 rfl (HG3.out.good (by simp)) (by decide) (vX 2 (by decide)) (vX 3 (by decide)) (rowB_of (kd := kd) rfl HKD.out) rfl P (List.take_append_drop p P) (Nat.le_trans H8.out (by decide)))) (h2 := ?_)
      simp only [Act.put, pa]; try dsimp only [List.set]
      iterate 3 (refine quietL ?_; simp only [Act.put, pa]; try dsimp only [List.set])
      refine allocL 0 rfl (fun q => .pointer (some ⟨q, 0, none⟩)) (.cells #[.int .i64 0, .int .i64 0, .string ⟨#[]⟩] 29) (h1 := fun Wx => by go_simp) (h2 := fun qa112 => ?_)
      simp only [Act.put, pa]; try dsimp only [List.set]
      try simp only [List.set_cons_zero, List.set_cons_succ]
      refine allocL 1 rfl (fun q => .pointer (some ⟨q, 0, none⟩)) (.cells #[.string ⟨#[]⟩, .int .i64 0, .int .i64 0, .string ⟨#[]⟩, .bool false] 38) (h1 := fun Wx => by go_simp) (h2 := fun qe113 => ?_)
      simp only [Act.put, pa]; try dsimp only [List.set]
      try simp only [List.set_cons_zero, List.set_cons_succ]
      refine detL undef [boxW qa112 4 4 ⟨#[]⟩, boxE qe113, heapR h (HX [rowO kd hok P, rowO kd hok (P.take p), rowO kd hok (P.drop p), rowO kd hok P])] (h1 := fun Wx hSw => by (have hz := hSw.box (b := qa112) (o := objZ) 0 rfl; refine useZ3 hz fun z0 z1 z2 y0 y1 y2 => ?_; go_simp; exact ⟨rfl, hSw.set3 0 rfl (.int .i64 4) (.int .i64 4) (.string ⟨#[]⟩)⟩)) (h2 := ?_)
      simp only [Act.put, pa]; try dsimp only [List.set]
      refine detL undef [boxW qa112 4 4 ⟨#[]⟩, boxE qe113, heapR h (HX [rowO kd hok P, rowO kd hok (P.take p), rowO kd hok (P.drop p), rowO kd hok P])] (h1 := fun Wx hSw => by (have hz := hSw.box (b := qe113) (o := objE) 1 rfl; refine useZ5 hz fun z0 z1 z2 z3 z4 y0 y1 y2 y3 y4 => ?_; go_simp; exact ⟨rfl, hSw.set5 1 rfl (.string ⟨#[]⟩) (.int .i64 0) (.int .i64 0) (.string ⟨#[]⟩) (.bool false)⟩)) (h2 := ?_)
      simp only [Act.put, pa]; try dsimp only [List.set]
      refine doneL (h := fun w15 S => ?_)
      replace S : Sep w (boxW qa112 4 4 ⟨#[]⟩ :: boxE qe113 :: heapR h (HX [rowO kd hok P, rowO kd hok (P.take p), rowO kd hok (P.drop p), rowO kd hok P]) :: boxW qq0_10 4 3 ⟨#[]⟩ :: boxE qq1_10 :: boxW qq0_9 4 2 ⟨#[]⟩ :: boxE qq1_9 :: boxW qv1 4 1 ⟨#[]⟩ :: []) w15 := by rw [Hb11_13.out] at S; exact S
      clear Hb11_13 Kb11_13 Cb11_13_0 Cb11_13_1
      have HG5 : Hid (HXG [rowO kd hok P, rowO kd hok (P.take p), rowO kd hok (P.drop p), rowO kd hok P, rowO kd hok (P)]) := Lib.hid (HG4.out.snoc (by have := H8.out; omega))
      replace S : Sep w (heapR h (HX [rowO kd hok P, rowO kd hok (P.take p), rowO kd hok (P.drop p), rowO kd hok P]) :: boxW qa112 4 4 ⟨#[]⟩ :: boxE qe113 :: boxW qq0_10 4 3 ⟨#[]⟩ :: boxE qq1_10 :: boxW qq0_9 4 2 ⟨#[]⟩ :: boxE qq1_9 :: boxW qv1 4 1 ⟨#[]⟩ :: []) (w15) := by
        refine (show Sep w ([boxW qa112 4 4 ⟨#[]⟩, boxE qe113, heapR h (HX [rowO kd hok P, rowO kd hok (P.take p), rowO kd hok (P.drop p), rowO kd hok P]), boxW qq0_10 4 3 ⟨#[]⟩, boxE qq1_10, boxW qq0_9 4 2 ⟨#[]⟩, boxE qq1_9, boxW qv1 4 1 ⟨#[]⟩] ++ []) _ from S).perm ?_
        exact List.Perm.append_right [] (perm_of (l := [boxW qa112 4 4 ⟨#[]⟩, boxE qe113, heapR h (HX [rowO kd hok P, rowO kd hok (P.take p), rowO kd hok (P.drop p), rowO kd hok P]), boxW qq0_10 4 3 ⟨#[]⟩, boxE qq1_10, boxW qq0_9 4 2 ⟨#[]⟩, boxE qq1_9, boxW qv1 4 1 ⟨#[]⟩]) [2, 0, 1, 3, 4, 5, 6, 7] (by show (List.range' 0 8).Perm [2, 0, 1, 3, 4, 5, 6, 7]; decide) (by rfl))
      refine named (boxW qa112 4 4 ⟨#[]⟩ :: boxE qe113 :: boxW qq0_10 4 3 ⟨#[]⟩ :: boxE qq1_10 :: boxW qq0_9 4 2 ⟨#[]⟩ :: boxE qq1_9 :: boxW qv1 4 1 ⟨#[]⟩ :: [] : List Res) fun b12_15 hb12_15 => ?_
      have Hb12_15 := Lib.hid hb12_15
      have Kb12_15 : Hid (∀ W (Q : List Res), Sep w (Q ++ b12_15) W → True) := Lib.hid fun W Q T => by
        rw [hb12_15] at T
        trivial
      have Cb12_15_0 : Hid (∀ W (Q : List Res), Sep w (Q ++ b12_15) W → W.cell? ⟨qv1, 0, none⟩ = some (.int .i64 4) ∧ W.cell? ⟨qv1, 1, none⟩ = some (.int .i64 1) ∧ W.cell? ⟨qv1, 2, none⟩ = some (.string ⟨#[]⟩)) := Lib.hid fun W Q T => by
        rw [hb12_15] at T
        have i0 := T.box (b := qv1) (o := objW 4 1 ⟨#[]⟩) (Q.length + 6) (by rw [List.getElem?_append_right (by omega), Nat.add_sub_cancel_left]; rfl)
        exact ⟨cellAt i0 0 rfl, cellAt i0 1 rfl, cellAt i0 2 rfl⟩
      have K12_2 : Hid (∀ W (Q : List Res), Sep w (Q ++ b12_15) W → Calls Tryz.prog 16 #[.int .i64 (-9223372036854775808)] W fun e W' => e = .returned (.agg #[.int .i64 2, .int .i64 (-9223372036854775808), .string ⟨#[]⟩]) ∧ Sep w (Q ++ b12_15) W') := Lib.hid fun W Q T => by
        exact (lnum_ok W (-9223372036854775808)).mono fun e W' ⟨e1, e2⟩ => ⟨e1, T.later e2⟩
      have K12_3 : Hid (∀ W (Q : List Res), Sep w (Q ++ b12_15) W → Calls Tryz.prog 16 #[.int .i64 9223372036854775807] W fun e W' => e = .returned (.agg #[.int .i64 2, .int .i64 9223372036854775807, .string ⟨#[]⟩]) ∧ Sep w (Q ++ b12_15) W') := Lib.hid fun W Q T => by
        exact (lnum_ok W 9223372036854775807).mono fun e W' ⟨e1, e2⟩ => ⟨e1, T.later e2⟩
      replace S := Lib.hid S
      clear hb12_15
      go_upto_region 12 with fail
      go_cut [19, 20] (fun s19 s20 wx => ∃ qq0_12 qq1_12, s19 = .pointer (some ⟨qq0_12, 0, none⟩) ∧ s20 = .pointer (some ⟨qq1_12, 0, none⟩) ∧ Sep w ([boxW qq0_12 4 5 ⟨#[]⟩, boxE qq1_12, heapR h (HX [rowO kd hok P, rowO kd hok (P.take p), rowO kd hok (P.drop p), rowO kd hok P, rowO kd hok (P)])] ++ b12_15) wx)
      case first =>
        have S1 : Sep w ([heapR h (HX [rowO kd hok P, rowO kd hok (P.take p), rowO kd hok (P.drop p), rowO kd hok P])] ++ b12_15) (w15) := by rw [Hb12_15.out]; exact S.out
        clear S
        refine regionP 4 8 (E := [emptyR, emptyR, heapR h (HX [rowO kd hok P, rowO kd hok (P.take p), rowO kd hok (P.drop p), rowO kd hok P])]) (base := b12_15) (Sep.putE (Sep.putE S1)) ?_
        clear S1
        refine quietP ?_
        simp only [Act.put, pa]; try dsimp only [List.set]
        refine quietP (hy := fun E Wx hSw => by ((refine and3 (Cb12_15_0.out _ _ hSw) fun u0 u1 u2 => ?_); go_simp; exact ⟨rfl, hSw⟩)) (h := ?_)
        simp only [Act.put, pa]; try dsimp only [List.set]
        refine quietP (hy := fun E Wx hSw => by (go_simp; exact symCall (K12_2.out _ _ hSw))) (h := ?_)
        simp only [Act.put, pa]; try dsimp only [List.set]
        refine quietP (hy := fun E Wx hSw => by (go_simp; exact symCall (K12_3.out _ _ hSw))) (h := ?_)
        simp only [Act.put, pa]; try dsimp only [List.set]
        refine endP ?_
        refine readyS [4, 8, 9] ?_
        refine detS (.tuple #[.agg #[.int .i64 4, .int .i64 5, .string ⟨#[]⟩], excZ]) [emptyR, emptyR, heapR h (HX [rowO kd hok P, rowO kd hok (P.take p), rowO kd hok (P.drop p), rowO kd hok P, rowO kd hok (P)])] (h1 := fun Wx hSw => by (go_simp; refine symCall ?_; exact sl_rows hSw 2 rfl (HG4.out.good (by simp)) (by decide) (vX 1 (by decide)) (vI (-9223372036854775808) (by decide)) (vI 9223372036854775807 (by decide)) (rowB_of (kd := kd) rfl HKD.out) (-9223372036854775808) 9223372036854775807 rfl rfl (by decide) (by decide) rfl rfl (P) (slice_all P (by have := H8.out; omega)) (Nat.le_trans H8.out (by decide)))) (h2 := ?_) (hs := ?_)
        · simp only [Act.put, pa]; try dsimp only [List.set]
          refine quietS 5 ?_
          simp only [Act.put, pa]; try dsimp only [List.set]
          refine quietS 6 ?_
          simp only [Act.put, pa]; try dsimp only [List.set]
          refine quietS 7 ?_
          simp only [Act.put, pa]; try dsimp only [List.set]
          refine readyS [8, 9] ?_
          refine allocS 0 rfl (fun q => .pointer (some ⟨q, 0, none⟩)) (.cells #[.int .i64 0, .int .i64 0, .string ⟨#[]⟩] 29) (h1 := fun Wx => by go_simp) (h2 := fun qa122 => ?_) (hs := ?_)
          · simp only [Act.put, pa]; try dsimp only [List.set]
            try simp only [List.set_cons_zero, List.set_cons_succ]
            refine readyS [9] ?_
            refine allocS 1 rfl (fun q => .pointer (some ⟨q, 0, none⟩)) (.cells #[.string ⟨#[]⟩, .int .i64 0, .int .i64 0, .string ⟨#[]⟩, .bool false] 38) (h1 := fun Wx => by go_simp) (h2 := fun qe123 => ?_) (hs := nilS)
            simp only [Act.put, pa]; try dsimp only [List.set]
            try simp only [List.set_cons_zero, List.set_cons_succ]
            refine readyS [10] ?_
            refine detS undef [boxW qa122 4 5 ⟨#[]⟩, boxE qe123, heapR h (HX [rowO kd hok P, rowO kd hok (P.take p), rowO kd hok (P.drop p), rowO kd hok P, rowO kd hok (P)])] (h1 := fun Wx hSw => by (have hz := hSw.box (b := qa122) (o := objZ) 0 rfl; refine useZ3 hz fun z0 z1 z2 y0 y1 y2 => ?_; go_simp; exact ⟨rfl, hSw.set3 0 rfl (.int .i64 4) (.int .i64 5) (.string ⟨#[]⟩)⟩)) (h2 := ?_) (hs := nilS)
            simp only [Act.put, pa]; try dsimp only [List.set]
            refine readyS [11] ?_
            refine detS undef [boxW qa122 4 5 ⟨#[]⟩, boxE qe123, heapR h (HX [rowO kd hok P, rowO kd hok (P.take p), rowO kd hok (P.drop p), rowO kd hok P, rowO kd hok (P)])] (h1 := fun Wx hSw => by (have hz := hSw.box (b := qe123) (o := objE) 1 rfl; refine useZ5 hz fun z0 z1 z2 z3 z4 y0 y1 y2 y3 y4 => ?_; go_simp; exact ⟨rfl, hSw.set5 1 rfl (.string ⟨#[]⟩) (.int .i64 0) (.int .i64 0) (.string ⟨#[]⟩) (.bool false)⟩)) (h2 := ?_) (hs := nilS)
            simp only [Act.put, pa]; try dsimp only [List.set]
            refine doneS (h := fun w17 S => ?_)
            go_wp2_with fail
            as_aux_lemma => (go_meet; exact ⟨_, _, rfl, rfl, S⟩)
          refine allocS 1 rfl (fun q => .pointer (some ⟨q, 0, none⟩)) (.cells #[.string ⟨#[]⟩, .int .i64 0, .int .i64 0, .string ⟨#[]⟩, .bool false] 38) (h1 := fun Wx => by go_simp) (h2 := fun qe126 => ?_) (hs := ?_)
          · simp only [Act.put, pa]; try dsimp only [List.set]
            try simp only [List.set_cons_zero, List.set_cons_succ]
            refine readyS [8] ?_
            refine allocS 0 rfl (fun q => .pointer (some ⟨q, 0, none⟩)) (.cells #[.int .i64 0, .int .i64 0, .string ⟨#[]⟩] 29) (h1 := fun Wx => by go_simp) (h2 := fun qa127 => ?_) (hs := nilS)
            simp only [Act.put, pa]; try dsimp only [List.set]
            try simp only [List.set_cons_zero, List.set_cons_succ]
            refine readyS [10] ?_
            refine detS undef [boxW qa127 4 5 ⟨#[]⟩, boxE qe126, heapR h (HX [rowO kd hok P, rowO kd hok (P.take p), rowO kd hok (P.drop p), rowO kd hok P, rowO kd hok (P)])] (h1 := fun Wx hSw => by (have hz := hSw.box (b := qa127) (o := objZ) 0 rfl; refine useZ3 hz fun z0 z1 z2 y0 y1 y2 => ?_; go_simp; exact ⟨rfl, hSw.set3 0 rfl (.int .i64 4) (.int .i64 5) (.string ⟨#[]⟩)⟩)) (h2 := ?_) (hs := nilS)
            simp only [Act.put, pa]; try dsimp only [List.set]
            refine readyS [11] ?_
            refine detS undef [boxW qa127 4 5 ⟨#[]⟩, boxE qe126, heapR h (HX [rowO kd hok P, rowO kd hok (P.take p), rowO kd hok (P.drop p), rowO kd hok P, rowO kd hok (P)])] (h1 := fun Wx hSw => by (have hz := hSw.box (b := qe126) (o := objE) 1 rfl; refine useZ5 hz fun z0 z1 z2 z3 z4 y0 y1 y2 y3 y4 => ?_; go_simp; exact ⟨rfl, hSw.set5 1 rfl (.string ⟨#[]⟩) (.int .i64 0) (.int .i64 0) (.string ⟨#[]⟩) (.bool false)⟩)) (h2 := ?_) (hs := nilS)
            simp only [Act.put, pa]; try dsimp only [List.set]
            refine doneS (h := fun w17 S => ?_)
            go_wp2_with fail
            as_aux_lemma => (go_meet; exact ⟨_, _, rfl, rfl, S⟩)
          exact nilS
        refine allocS 0 rfl (fun q => .pointer (some ⟨q, 0, none⟩)) (.cells #[.int .i64 0, .int .i64 0, .string ⟨#[]⟩] 29) (h1 := fun Wx => by go_simp) (h2 := fun qa1210 => ?_) (hs := ?_)
        · simp only [Act.put, pa]; try dsimp only [List.set]
          try simp only [List.set_cons_zero, List.set_cons_succ]
          refine readyS [4, 9] ?_
          refine detS (.tuple #[.agg #[.int .i64 4, .int .i64 5, .string ⟨#[]⟩], excZ]) [boxZ qa1210, emptyR, heapR h (HX [rowO kd hok P, rowO kd hok (P.take p), rowO kd hok (P.drop p), rowO kd hok P, rowO kd hok (P)])] (h1 := fun Wx hSw => by (go_simp; refine symCall ?_; exact sl_rows hSw 2 rfl (HG4.out.good (by simp)) (by decide) (vX 1 (by decide)) (vI (-9223372036854775808) (by decide)) (vI 9223372036854775807 (by decide)) (rowB_of (kd := kd) rfl HKD.out) (-9223372036854775808) 9223372036854775807 rfl rfl (by decide) (by decide) rfl rfl (P) (slice_all P (by have := H8.out; omega)) (Nat.le_trans H8.out (by decide)))) (h2 := ?_) (hs := ?_)
          · simp only [Act.put, pa]; try dsimp only [List.set]
            refine quietS 5 ?_
            simp only [Act.put, pa]; try dsimp only [List.set]
            refine quietS 6 ?_
            simp only [Act.put, pa]; try dsimp only [List.set]
            refine quietS 7 ?_
            simp only [Act.put, pa]; try dsimp only [List.set]
            refine readyS [9] ?_
            refine allocS 1 rfl (fun q => .pointer (some ⟨q, 0, none⟩)) (.cells #[.string ⟨#[]⟩, .int .i64 0, .int .i64 0, .string ⟨#[]⟩, .bool false] 38) (h1 := fun Wx => by go_simp) (h2 := fun qe1212 => ?_) (hs := nilS)
            simp only [Act.put, pa]; try dsimp only [List.set]
            try simp only [List.set_cons_zero, List.set_cons_succ]
            refine readyS [10] ?_
            refine detS undef [boxW qa1210 4 5 ⟨#[]⟩, boxE qe1212, heapR h (HX [rowO kd hok P, rowO kd hok (P.take p), rowO kd hok (P.drop p), rowO kd hok P, rowO kd hok (P)])] (h1 := fun Wx hSw => by (have hz := hSw.box (b := qa1210) (o := objZ) 0 rfl; refine useZ3 hz fun z0 z1 z2 y0 y1 y2 => ?_; go_simp; exact ⟨rfl, hSw.set3 0 rfl (.int .i64 4) (.int .i64 5) (.string ⟨#[]⟩)⟩)) (h2 := ?_) (hs := nilS)
            simp only [Act.put, pa]; try dsimp only [List.set]
            refine readyS [11] ?_
            refine detS undef [boxW qa1210 4 5 ⟨#[]⟩, boxE qe1212, heapR h (HX [rowO kd hok P, rowO kd hok (P.take p), rowO kd hok (P.drop p), rowO kd hok P, rowO kd hok (P)])] (h1 := fun Wx hSw => by (have hz := hSw.box (b := qe1212) (o := objE) 1 rfl; refine useZ5 hz fun z0 z1 z2 z3 z4 y0 y1 y2 y3 y4 => ?_; go_simp; exact ⟨rfl, hSw.set5 1 rfl (.string ⟨#[]⟩) (.int .i64 0) (.int .i64 0) (.string ⟨#[]⟩) (.bool false)⟩)) (h2 := ?_) (hs := nilS)
            simp only [Act.put, pa]; try dsimp only [List.set]
            refine doneS (h := fun w17 S => ?_)
            go_wp2_with fail
            as_aux_lemma => (go_meet; exact ⟨_, _, rfl, rfl, S⟩)
          refine allocS 1 rfl (fun q => .pointer (some ⟨q, 0, none⟩)) (.cells #[.string ⟨#[]⟩, .int .i64 0, .int .i64 0, .string ⟨#[]⟩, .bool false] 38) (h1 := fun Wx => by go_simp) (h2 := fun qe1215 => ?_) (hs := ?_)
          · simp only [Act.put, pa]; try dsimp only [List.set]
            try simp only [List.set_cons_zero, List.set_cons_succ]
            refine readyS [4] ?_
            refine detS (.tuple #[.agg #[.int .i64 4, .int .i64 5, .string ⟨#[]⟩], excZ]) [boxZ qa1210, boxE qe1215, heapR h (HX [rowO kd hok P, rowO kd hok (P.take p), rowO kd hok (P.drop p), rowO kd hok P, rowO kd hok (P)])] (h1 := fun Wx hSw => by (go_simp; refine symCall ?_; exact sl_rows hSw 2 rfl (HG4.out.good (by simp)) (by decide) (vX 1 (by decide)) (vI (-9223372036854775808) (by decide)) (vI 9223372036854775807 (by decide)) (rowB_of (kd := kd) rfl HKD.out) (-9223372036854775808) 9223372036854775807 rfl rfl (by decide) (by decide) rfl rfl (P) (slice_all P (by have := H8.out; omega)) (Nat.le_trans H8.out (by decide)))) (h2 := ?_) (hs := nilS)
            simp only [Act.put, pa]; try dsimp only [List.set]
            refine quietS 5 ?_
            simp only [Act.put, pa]; try dsimp only [List.set]
            refine quietS 6 ?_
            simp only [Act.put, pa]; try dsimp only [List.set]
            refine quietS 7 ?_
            simp only [Act.put, pa]; try dsimp only [List.set]
            refine readyS [10] ?_
            refine detS undef [boxW qa1210 4 5 ⟨#[]⟩, boxE qe1215, heapR h (HX [rowO kd hok P, rowO kd hok (P.take p), rowO kd hok (P.drop p), rowO kd hok P, rowO kd hok (P)])] (h1 := fun Wx hSw => by (have hz := hSw.box (b := qa1210) (o := objZ) 0 rfl; refine useZ3 hz fun z0 z1 z2 y0 y1 y2 => ?_; go_simp; exact ⟨rfl, hSw.set3 0 rfl (.int .i64 4) (.int .i64 5) (.string ⟨#[]⟩)⟩)) (h2 := ?_) (hs := nilS)
            simp only [Act.put, pa]; try dsimp only [List.set]
            refine readyS [11] ?_
            refine detS undef [boxW qa1210 4 5 ⟨#[]⟩, boxE qe1215, heapR h (HX [rowO kd hok P, rowO kd hok (P.take p), rowO kd hok (P.drop p), rowO kd hok P, rowO kd hok (P)])] (h1 := fun Wx hSw => by (have hz := hSw.box (b := qe1215) (o := objE) 1 rfl; refine useZ5 hz fun z0 z1 z2 z3 z4 y0 y1 y2 y3 y4 => ?_; go_simp; exact ⟨rfl, hSw.set5 1 rfl (.string ⟨#[]⟩) (.int .i64 0) (.int .i64 0) (.string ⟨#[]⟩) (.bool false)⟩)) (h2 := ?_) (hs := nilS)
            simp only [Act.put, pa]; try dsimp only [List.set]
            refine doneS (h := fun w17 S => ?_)
            go_wp2_with fail
            as_aux_lemma => (go_meet; exact ⟨_, _, rfl, rfl, S⟩)
          exact nilS
        refine allocS 1 rfl (fun q => .pointer (some ⟨q, 0, none⟩)) (.cells #[.string ⟨#[]⟩, .int .i64 0, .int .i64 0, .string ⟨#[]⟩, .bool false] 38) (h1 := fun Wx => by go_simp) (h2 := fun qe1219 => ?_) (hs := ?_)
        · simp only [Act.put, pa]; try dsimp only [List.set]
          try simp only [List.set_cons_zero, List.set_cons_succ]
          refine readyS [4, 8] ?_
          refine detS (.tuple #[.agg #[.int .i64 4, .int .i64 5, .string ⟨#[]⟩], excZ]) [emptyR, boxE qe1219, heapR h (HX [rowO kd hok P, rowO kd hok (P.take p), rowO kd hok (P.drop p), rowO kd hok P, rowO kd hok (P)])] (h1 := fun Wx hSw => by (go_simp; refine symCall ?_; exact sl_rows hSw 2 rfl (HG4.out.good (by simp)) (by decide) (vX 1 (by decide)) (vI (-9223372036854775808) (by decide)) (vI 9223372036854775807 (by decide)) (rowB_of (kd := kd) rfl HKD.out) (-9223372036854775808) 9223372036854775807 rfl rfl (by decide) (by decide) rfl rfl (P) (slice_all P (by have := H8.out; omega)) (Nat.le_trans H8.out (by decide)))) (h2 := ?_) (hs := ?_)
          · simp only [Act.put, pa]; try dsimp only [List.set]
            refine quietS 5 ?_
            simp only [Act.put, pa]; try dsimp only [List.set]
            refine quietS 6 ?_
            simp only [Act.put, pa]; try dsimp only [List.set]
            refine quietS 7 ?_
            simp only [Act.put, pa]; try dsimp only [List.set]
            refine readyS [8] ?_
            refine allocS 0 rfl (fun q => .pointer (some ⟨q, 0, none⟩)) (.cells #[.int .i64 0, .int .i64 0, .string ⟨#[]⟩] 29) (h1 := fun Wx => by go_simp) (h2 := fun qa1221 => ?_) (hs := nilS)
            simp only [Act.put, pa]; try dsimp only [List.set]
            try simp only [List.set_cons_zero, List.set_cons_succ]
            refine readyS [10] ?_
            refine detS undef [boxW qa1221 4 5 ⟨#[]⟩, boxE qe1219, heapR h (HX [rowO kd hok P, rowO kd hok (P.take p), rowO kd hok (P.drop p), rowO kd hok P, rowO kd hok (P)])] (h1 := fun Wx hSw => by (have hz := hSw.box (b := qa1221) (o := objZ) 0 rfl; refine useZ3 hz fun z0 z1 z2 y0 y1 y2 => ?_; go_simp; exact ⟨rfl, hSw.set3 0 rfl (.int .i64 4) (.int .i64 5) (.string ⟨#[]⟩)⟩)) (h2 := ?_) (hs := nilS)
            simp only [Act.put, pa]; try dsimp only [List.set]
            refine readyS [11] ?_
            refine detS undef [boxW qa1221 4 5 ⟨#[]⟩, boxE qe1219, heapR h (HX [rowO kd hok P, rowO kd hok (P.take p), rowO kd hok (P.drop p), rowO kd hok P, rowO kd hok (P)])] (h1 := fun Wx hSw => by (have hz := hSw.box (b := qe1219) (o := objE) 1 rfl; refine useZ5 hz fun z0 z1 z2 z3 z4 y0 y1 y2 y3 y4 => ?_; go_simp; exact ⟨rfl, hSw.set5 1 rfl (.string ⟨#[]⟩) (.int .i64 0) (.int .i64 0) (.string ⟨#[]⟩) (.bool false)⟩)) (h2 := ?_) (hs := nilS)
            simp only [Act.put, pa]; try dsimp only [List.set]
            refine doneS (h := fun w17 S => ?_)
            go_wp2_with fail
            as_aux_lemma => (go_meet; exact ⟨_, _, rfl, rfl, S⟩)
          refine allocS 0 rfl (fun q => .pointer (some ⟨q, 0, none⟩)) (.cells #[.int .i64 0, .int .i64 0, .string ⟨#[]⟩] 29) (h1 := fun Wx => by go_simp) (h2 := fun qa1224 => ?_) (hs := ?_)
          · simp only [Act.put, pa]; try dsimp only [List.set]
            try simp only [List.set_cons_zero, List.set_cons_succ]
            refine readyS [4] ?_
            refine detS (.tuple #[.agg #[.int .i64 4, .int .i64 5, .string ⟨#[]⟩], excZ]) [boxZ qa1224, boxE qe1219, heapR h (HX [rowO kd hok P, rowO kd hok (P.take p), rowO kd hok (P.drop p), rowO kd hok P, rowO kd hok (P)])] (h1 := fun Wx hSw => by (go_simp; refine symCall ?_; exact sl_rows hSw 2 rfl (HG4.out.good (by simp)) (by decide) (vX 1 (by decide)) (vI (-9223372036854775808) (by decide)) (vI 9223372036854775807 (by decide)) (rowB_of (kd := kd) rfl HKD.out) (-9223372036854775808) 9223372036854775807 rfl rfl (by decide) (by decide) rfl rfl (P) (slice_all P (by have := H8.out; omega)) (Nat.le_trans H8.out (by decide)))) (h2 := ?_) (hs := nilS)
            simp only [Act.put, pa]; try dsimp only [List.set]
            refine quietS 5 ?_
            simp only [Act.put, pa]; try dsimp only [List.set]
            refine quietS 6 ?_
            simp only [Act.put, pa]; try dsimp only [List.set]
            refine quietS 7 ?_
            simp only [Act.put, pa]; try dsimp only [List.set]
            refine readyS [10] ?_
            refine detS undef [boxW qa1224 4 5 ⟨#[]⟩, boxE qe1219, heapR h (HX [rowO kd hok P, rowO kd hok (P.take p), rowO kd hok (P.drop p), rowO kd hok P, rowO kd hok (P)])] (h1 := fun Wx hSw => by (have hz := hSw.box (b := qa1224) (o := objZ) 0 rfl; refine useZ3 hz fun z0 z1 z2 y0 y1 y2 => ?_; go_simp; exact ⟨rfl, hSw.set3 0 rfl (.int .i64 4) (.int .i64 5) (.string ⟨#[]⟩)⟩)) (h2 := ?_) (hs := nilS)
            simp only [Act.put, pa]; try dsimp only [List.set]
            refine readyS [11] ?_
            refine detS undef [boxW qa1224 4 5 ⟨#[]⟩, boxE qe1219, heapR h (HX [rowO kd hok P, rowO kd hok (P.take p), rowO kd hok (P.drop p), rowO kd hok P, rowO kd hok (P)])] (h1 := fun Wx hSw => by (have hz := hSw.box (b := qe1219) (o := objE) 1 rfl; refine useZ5 hz fun z0 z1 z2 z3 z4 y0 y1 y2 y3 y4 => ?_; go_simp; exact ⟨rfl, hSw.set5 1 rfl (.string ⟨#[]⟩) (.int .i64 0) (.int .i64 0) (.string ⟨#[]⟩) (.bool false)⟩)) (h2 := ?_) (hs := nilS)
            simp only [Act.put, pa]; try dsimp only [List.set]
            refine doneS (h := fun w17 S => ?_)
            go_wp2_with fail
            as_aux_lemma => (go_meet; exact ⟨_, _, rfl, rfl, S⟩)
          exact nilS
        exact nilS
      case rest =>
        obtain ⟨qq0_12, qq1_12, rfl, rfl, S⟩ := hcut
        replace S : Sep w (boxW qq0_12 4 5 ⟨#[]⟩ :: boxE qq1_12 :: heapR h (HX [rowO kd hok P, rowO kd hok (P.take p), rowO kd hok (P.drop p), rowO kd hok P, rowO kd hok (P)]) :: boxW qa112 4 4 ⟨#[]⟩ :: boxE qe113 :: boxW qq0_10 4 3 ⟨#[]⟩ :: boxE qq1_10 :: boxW qq0_9 4 2 ⟨#[]⟩ :: boxE qq1_9 :: boxW qv1 4 1 ⟨#[]⟩ :: []) wc := by rw [Hb12_15.out] at S; exact S
        clear Hb12_15 Kb12_15 K12_2 K12_3 Cb12_15_0
        refine named (boxW qq0_12 4 5 ⟨#[]⟩ :: boxE qq1_12 :: heapR h (HX [rowO kd hok P, rowO kd hok (P.take p), rowO kd hok (P.drop p), rowO kd hok P, rowO kd hok (P)]) :: boxW qa112 4 4 ⟨#[]⟩ :: boxE qe113 :: boxW qq0_10 4 3 ⟨#[]⟩ :: boxE qq1_10 :: boxW qq0_9 4 2 ⟨#[]⟩ :: boxE qq1_9 :: boxW qv1 4 1 ⟨#[]⟩ :: [] : List Res) fun b13_17 hb13_17 => ?_
        have Hb13_17 := Lib.hid hb13_17
        have Kb13_17 : Hid (∀ W (Q : List Res), Sep w (Q ++ b13_17) W → True) := Lib.hid fun W Q T => by
          rw [hb13_17] at T
          trivial
        have Cb13_17_0 : Hid (∀ W (Q : List Res), Sep w (Q ++ b13_17) W → W.cell? ⟨qa112, 0, none⟩ = some (.int .i64 4) ∧ W.cell? ⟨qa112, 1, none⟩ = some (.int .i64 4) ∧ W.cell? ⟨qa112, 2, none⟩ = some (.string ⟨#[]⟩)) := Lib.hid fun W Q T => by
          rw [hb13_17] at T
          have i0 := T.box (b := qa112) (o := objW 4 4 ⟨#[]⟩) (Q.length + 3) (by rw [List.getElem?_append_right (by omega), Nat.add_sub_cancel_left]; rfl)
          exact ⟨cellAt i0 0 rfl, cellAt i0 1 rfl, cellAt i0 2 rfl⟩
        have Cb13_17_1 : Hid (∀ W (Q : List Res), Sep w (Q ++ b13_17) W → W.cell? ⟨qv1, 0, none⟩ = some (.int .i64 4) ∧ W.cell? ⟨qv1, 1, none⟩ = some (.int .i64 1) ∧ W.cell? ⟨qv1, 2, none⟩ = some (.string ⟨#[]⟩)) := Lib.hid fun W Q T => by
          rw [hb13_17] at T
          have i0 := T.box (b := qv1) (o := objW 4 1 ⟨#[]⟩) (Q.length + 9) (by rw [List.getElem?_append_right (by omega), Nat.add_sub_cancel_left]; rfl)
          exact ⟨cellAt i0 0 rfl, cellAt i0 1 rfl, cellAt i0 2 rfl⟩
        have K13_3 : Hid (∀ W (Q : List Res), Sep w (Q ++ b13_17) W → Calls Tryz.prog 29 #[.pointer (some ⟨h, 0, none⟩), .agg #[.int .i64 4, .int .i64 4, .string ⟨#[]⟩], .agg #[.int .i64 4, .int .i64 1, .string ⟨#[]⟩]] W fun e W' => e = .returned (.tuple #[.bool true, excZ]) ∧ Sep w (Q ++ b13_17) W') := Lib.hid fun W Q T => by
          rw [Hb13_17.out] at T ⊢
          exact (by have hh := sameOp_ok (HG5.out.good (by simp)) (by decide) (Q.length + 2) T (by rw [List.getElem?_append_right (by omega), Nat.add_sub_cancel_left]; rfl) (vX 4 (by decide)) (vX 1 (by decide)); rw [show (HX [rowO kd hok P, rowO kd hok (P.take p), rowO kd hok (P.drop p), rowO kd hok P, rowO kd hok (P)]).sameF 30 (vX 4 (by decide)) (vX 1 (by decide)) = some true from same_rows _ 29 _ _ (rowB_of (kd := kd) rfl HKD.out) rfl rfl] at hh; exact hh)
        replace S := Lib.hid S
        clear hb13_17
        go_upto_region 13 with fail
        have S1 : Sep w ([] ++ b13_17) (wc) := by rw [Hb13_17.out]; exact S.out
        clear S
        refine regionL (E := [emptyR]) (base := b13_17) (Sep.putE S1) ?_
        clear S1
        refine quietL ?_
        simp only [Act.put, pa]; try dsimp only [List.set]
        refine quietL (hy := fun E Wx hSw => by ((refine and3 (Cb13_17_0.out _ _ hSw) fun u0 u1 u2 => ?_); go_simp; exact ⟨rfl, hSw⟩)) (h := ?_)
        simp only [Act.put, pa]; try dsimp only [List.set]
        refine quietL (hy := fun E Wx hSw => by ((refine and3 (Cb13_17_1.out _ _ hSw) fun u0 u1 u2 => ?_); go_simp; exact ⟨rfl, hSw⟩)) (h := ?_)
        simp only [Act.put, pa]; try dsimp only [List.set]
        refine quietL (hy := fun E Wx hSw => by (go_simp; exact symCall (K13_3.out _ _ hSw))) (h := ?_)
        simp only [Act.put, pa]; try dsimp only [List.set]
        iterate 3 (refine quietL ?_; simp only [Act.put, pa]; try dsimp only [List.set])
        refine allocL 0 rfl (fun q => .pointer (some ⟨q, 0, none⟩)) (.cells #[.string ⟨#[]⟩, .int .i64 0, .int .i64 0, .string ⟨#[]⟩, .bool false] 38) (h1 := fun Wx => by go_simp) (h2 := fun qe131 => ?_)
        simp only [Act.put, pa]; try dsimp only [List.set]
        try simp only [List.set_cons_zero, List.set_cons_succ]
        refine quietL ?_
        simp only [Act.put, pa]; try dsimp only [List.set]
        refine detL undef [boxE qe131] (h1 := fun Wx hSw => by (have hz := hSw.box (b := qe131) (o := objE) 0 rfl; refine useZ5 hz fun z0 z1 z2 z3 z4 y0 y1 y2 y3 y4 => ?_; go_simp; exact ⟨rfl, hSw.set5 0 rfl (.string ⟨#[]⟩) (.int .i64 0) (.int .i64 0) (.string ⟨#[]⟩) (.bool false)⟩)) (h2 := ?_)
        simp only [Act.put, pa]; try dsimp only [List.set]
        refine doneL (h := fun w19 S => ?_)
        replace S : Sep w (boxE qe131 :: boxW qq0_12 4 5 ⟨#[]⟩ :: boxE qq1_12 :: heapR h (HX [rowO kd hok P, rowO kd hok (P.take p), rowO kd hok (P.drop p), rowO kd hok P, rowO kd hok (P)]) :: boxW qa112 4 4 ⟨#[]⟩ :: boxE qe113 :: boxW qq0_10 4 3 ⟨#[]⟩ :: boxE qq1_10 :: boxW qq0_9 4 2 ⟨#[]⟩ :: boxE qq1_9 :: boxW qv1 4 1 ⟨#[]⟩ :: []) w19 := by rw [Hb13_17.out] at S; exact S
        clear Hb13_17 Kb13_17 K13_3 Cb13_17_0 Cb13_17_1
        refine named (boxE qe131 :: boxW qq0_12 4 5 ⟨#[]⟩ :: boxE qq1_12 :: heapR h (HX [rowO kd hok P, rowO kd hok (P.take p), rowO kd hok (P.drop p), rowO kd hok P, rowO kd hok (P)]) :: boxW qa112 4 4 ⟨#[]⟩ :: boxE qe113 :: boxW qq0_10 4 3 ⟨#[]⟩ :: boxE qq1_10 :: boxW qq0_9 4 2 ⟨#[]⟩ :: boxE qq1_9 :: boxW qv1 4 1 ⟨#[]⟩ :: [] : List Res) fun b14_19 hb14_19 => ?_
        have Hb14_19 := Lib.hid hb14_19
        have Kb14_19 : Hid (∀ W (Q : List Res), Sep w (Q ++ b14_19) W → True) := Lib.hid fun W Q T => by
          rw [hb14_19] at T
          trivial
        have Cb14_19_0 : Hid (∀ W (Q : List Res), Sep w (Q ++ b14_19) W → W.cell? ⟨qq0_12, 0, none⟩ = some (.int .i64 4) ∧ W.cell? ⟨qq0_12, 1, none⟩ = some (.int .i64 5) ∧ W.cell? ⟨qq0_12, 2, none⟩ = some (.string ⟨#[]⟩)) := Lib.hid fun W Q T => by
          rw [hb14_19] at T
          have i0 := T.box (b := qq0_12) (o := objW 4 5 ⟨#[]⟩) (Q.length + 1) (by rw [List.getElem?_append_right (by omega), Nat.add_sub_cancel_left]; rfl)
          exact ⟨cellAt i0 0 rfl, cellAt i0 1 rfl, cellAt i0 2 rfl⟩
        have Cb14_19_1 : Hid (∀ W (Q : List Res), Sep w (Q ++ b14_19) W → W.cell? ⟨qv1, 0, none⟩ = some (.int .i64 4) ∧ W.cell? ⟨qv1, 1, none⟩ = some (.int .i64 1) ∧ W.cell? ⟨qv1, 2, none⟩ = some (.string ⟨#[]⟩)) := Lib.hid fun W Q T => by
          rw [hb14_19] at T
          have i0 := T.box (b := qv1) (o := objW 4 1 ⟨#[]⟩) (Q.length + 10) (by rw [List.getElem?_append_right (by omega), Nat.add_sub_cancel_left]; rfl)
          exact ⟨cellAt i0 0 rfl, cellAt i0 1 rfl, cellAt i0 2 rfl⟩
        have K14_3 : Hid (∀ W (Q : List Res), Sep w (Q ++ b14_19) W → Calls Tryz.prog 29 #[.pointer (some ⟨h, 0, none⟩), .agg #[.int .i64 4, .int .i64 5, .string ⟨#[]⟩], .agg #[.int .i64 4, .int .i64 1, .string ⟨#[]⟩]] W fun e W' => e = .returned (.tuple #[.bool true, excZ]) ∧ Sep w (Q ++ b14_19) W') := Lib.hid fun W Q T => by
          rw [Hb14_19.out] at T ⊢
          exact (by have hh := sameOp_ok (HG5.out.good (by simp)) (by decide) (Q.length + 3) T (by rw [List.getElem?_append_right (by omega), Nat.add_sub_cancel_left]; rfl) (vX 5 (by decide)) (vX 1 (by decide)); rw [show (HX [rowO kd hok P, rowO kd hok (P.take p), rowO kd hok (P.drop p), rowO kd hok P, rowO kd hok (P)]).sameF 30 (vX 5 (by decide)) (vX 1 (by decide)) = some true from same_rows _ 29 _ _ (rowB_of (kd := kd) rfl HKD.out) rfl rfl] at hh; exact hh)
        replace S := Lib.hid S
        clear hb14_19
        go_upto_region 14 with fail
        have S1 : Sep w ([] ++ b14_19) (w19) := by rw [Hb14_19.out]; exact S.out
        clear S
        refine regionL (E := [emptyR]) (base := b14_19) (Sep.putE S1) ?_
        clear S1
        refine quietL ?_
        simp only [Act.put, pa]; try dsimp only [List.set]
        refine quietL (hy := fun E Wx hSw => by ((refine and3 (Cb14_19_0.out _ _ hSw) fun u0 u1 u2 => ?_); go_simp; exact ⟨rfl, hSw⟩)) (h := ?_)
        simp only [Act.put, pa]; try dsimp only [List.set]
        refine quietL (hy := fun E Wx hSw => by ((refine and3 (Cb14_19_1.out _ _ hSw) fun u0 u1 u2 => ?_); go_simp; exact ⟨rfl, hSw⟩)) (h := ?_)
        simp only [Act.put, pa]; try dsimp only [List.set]
        refine quietL (hy := fun E Wx hSw => by (go_simp; exact symCall (K14_3.out _ _ hSw))) (h := ?_)
        simp only [Act.put, pa]; try dsimp only [List.set]
        iterate 3 (refine quietL ?_; simp only [Act.put, pa]; try dsimp only [List.set])
        refine allocL 0 rfl (fun q => .pointer (some ⟨q, 0, none⟩)) (.cells #[.string ⟨#[]⟩, .int .i64 0, .int .i64 0, .string ⟨#[]⟩, .bool false] 38) (h1 := fun Wx => by go_simp) (h2 := fun qe141 => ?_)
        simp only [Act.put, pa]; try dsimp only [List.set]
        try simp only [List.set_cons_zero, List.set_cons_succ]
        refine quietL ?_
        simp only [Act.put, pa]; try dsimp only [List.set]
        refine detL undef [boxE qe141] (h1 := fun Wx hSw => by (have hz := hSw.box (b := qe141) (o := objE) 0 rfl; refine useZ5 hz fun z0 z1 z2 z3 z4 y0 y1 y2 y3 y4 => ?_; go_simp; exact ⟨rfl, hSw.set5 0 rfl (.string ⟨#[]⟩) (.int .i64 0) (.int .i64 0) (.string ⟨#[]⟩) (.bool false)⟩)) (h2 := ?_)
        simp only [Act.put, pa]; try dsimp only [List.set]
        refine doneL (h := fun w21 S => ?_)
        replace S : Sep w (boxE qe141 :: boxE qe131 :: boxW qq0_12 4 5 ⟨#[]⟩ :: boxE qq1_12 :: heapR h (HX [rowO kd hok P, rowO kd hok (P.take p), rowO kd hok (P.drop p), rowO kd hok P, rowO kd hok (P)]) :: boxW qa112 4 4 ⟨#[]⟩ :: boxE qe113 :: boxW qq0_10 4 3 ⟨#[]⟩ :: boxE qq1_10 :: boxW qq0_9 4 2 ⟨#[]⟩ :: boxE qq1_9 :: boxW qv1 4 1 ⟨#[]⟩ :: []) w21 := by rw [Hb14_19.out] at S; exact S
        clear Hb14_19 Kb14_19 K14_3 Cb14_19_0 Cb14_19_1
        refine named (boxE qe141 :: boxE qe131 :: boxW qq0_12 4 5 ⟨#[]⟩ :: boxE qq1_12 :: heapR h (HX [rowO kd hok P, rowO kd hok (P.take p), rowO kd hok (P.drop p), rowO kd hok P, rowO kd hok (P)]) :: boxW qa112 4 4 ⟨#[]⟩ :: boxE qe113 :: boxW qq0_10 4 3 ⟨#[]⟩ :: boxE qq1_10 :: boxW qq0_9 4 2 ⟨#[]⟩ :: boxE qq1_9 :: boxW qv1 4 1 ⟨#[]⟩ :: [] : List Res) fun b15_21 hb15_21 => ?_
        have Hb15_21 := Lib.hid hb15_21
        have Kb15_21 : Hid (∀ W (Q : List Res), Sep w (Q ++ b15_21) W → True) := Lib.hid fun W Q T => by
          rw [hb15_21] at T
          trivial
        have Cb15_21_0 : Hid (∀ W (Q : List Res), Sep w (Q ++ b15_21) W → W.cell? ⟨qv1, 0, none⟩ = some (.int .i64 4) ∧ W.cell? ⟨qv1, 1, none⟩ = some (.int .i64 1) ∧ W.cell? ⟨qv1, 2, none⟩ = some (.string ⟨#[]⟩)) := Lib.hid fun W Q T => by
          rw [hb15_21] at T
          have i0 := T.box (b := qv1) (o := objW 4 1 ⟨#[]⟩) (Q.length + 11) (by rw [List.getElem?_append_right (by omega), Nat.add_sub_cancel_left]; rfl)
          exact ⟨cellAt i0 0 rfl, cellAt i0 1 rfl, cellAt i0 2 rfl⟩
        have K15_2 : Hid (∀ W (Q : List Res), Sep w (Q ++ b15_21) W → Calls Tryz.prog 20 #[.bool true] W fun e W' => e = .returned (.agg #[.int .i64 1, .int .i64 1, .string ⟨#[]⟩]) ∧ Sep w (Q ++ b15_21) W') := Lib.hid fun W Q T => by
          exact (lyes_ok W true).mono fun e W' ⟨e1, e2⟩ => ⟨e1, T.later e2⟩
        have K15_4 : Hid (∀ W (Q : List Res), Sep w (Q ++ b15_21) W → Calls Tryz.prog 59 #[.pointer (some ⟨h, 0, none⟩), .agg #[.int .i64 4, .int .i64 1, .string ⟨#[]⟩], .agg #[.int .i64 1, .int .i64 1, .string ⟨#[]⟩], .agg #[.int .i64 0, .int .i64 0, .string ⟨#[]⟩]] W fun e W' => e = .returned (.tuple #[zeroV, excN typeError]) ∧ Sep w (Q ++ b15_21) W') := Lib.hid fun W Q T => by
          rw [Hb15_21.out] at T ⊢
          exact sl_w2r T (Q.length + 4) (by rw [List.getElem?_append_right (by omega), Nat.add_sub_cancel_left]; rfl) (vX 1 (by decide)) ⟨1, 1, ⟨#[]⟩, by decide, by decide, by decide⟩ V.zero (rowB_of (kd := kd) rfl HKD.out) 1 P.length false true rfl rfl rfl rfl rfl
        replace S := Lib.hid S
        clear hb15_21
        go_upto_region 15 with fail
        go_cut [25, 26] (fun s25 s26 wx => ∃ qq0_15 qq1_15, s25 = .pointer (some ⟨qq0_15, 0, none⟩) ∧ s26 = .pointer (some ⟨qq1_15, 0, none⟩) ∧ Sep w ([boxZ qq0_15, boxN qq1_15 typeError] ++ b15_21) wx)
        case first =>
          have S1 : Sep w ([] ++ b15_21) (w21) := by rw [Hb15_21.out]; exact S.out
          clear S
          refine regionP 8 4 (E := [emptyR, emptyR]) (base := b15_21) (Sep.putE (Sep.putE S1)) ?_
          clear S1
          refine quietP ?_
          simp only [Act.put, pa]; try dsimp only [List.set]
          refine quietP (hy := fun E Wx hSw => by ((refine and3 (Cb15_21_0.out _ _ hSw) fun u0 u1 u2 => ?_); go_simp; exact ⟨rfl, hSw⟩)) (h := ?_)
          simp only [Act.put, pa]; try dsimp only [List.set]
          refine quietP (hy := fun E Wx hSw => by (go_simp; exact symCall (K15_2.out _ _ hSw))) (h := ?_)
          simp only [Act.put, pa]; try dsimp only [List.set]
          refine quietP ?_
          simp only [Act.put, pa]; try dsimp only [List.set]
          refine quietP (hy := fun E Wx hSw => by (go_simp; exact symCall (K15_4.out _ _ hSw))) (h := ?_)
          simp only [Act.put, pa]; try dsimp only [List.set]
          iterate 3 (refine quietP ?_; simp only [Act.put, pa]; try dsimp only [List.set])
          refine endP ?_
          refine readyS [8, 9] ?_
          refine allocS 0 rfl (fun q => .pointer (some ⟨q, 0, none⟩)) (.cells #[.int .i64 0, .int .i64 0, .string ⟨#[]⟩] 29) (h1 := fun Wx => by go_simp) (h2 := fun qa151 => ?_) (hs := ?_)
          · simp only [Act.put, pa]; try dsimp only [List.set]
            try simp only [List.set_cons_zero, List.set_cons_succ]
            refine readyS [9] ?_
            refine allocS 1 rfl (fun q => .pointer (some ⟨q, 0, none⟩)) (.cells #[.string ⟨#[]⟩, .int .i64 0, .int .i64 0, .string ⟨#[]⟩, .bool false] 38) (h1 := fun Wx => by go_simp) (h2 := fun qe152 => ?_) (hs := nilS)
            simp only [Act.put, pa]; try dsimp only [List.set]
            try simp only [List.set_cons_zero, List.set_cons_succ]
            refine readyS [10] ?_
            refine detS undef [boxZ qa151, boxE qe152] (h1 := fun Wx hSw => by (have hz := hSw.box (b := qa151) (o := objZ) 0 rfl; refine useZ3 hz fun z0 z1 z2 y0 y1 y2 => ?_; go_simp; exact ⟨rfl, hSw.set3 0 rfl (.int .i64 0) (.int .i64 0) (.string ⟨#[]⟩)⟩)) (h2 := ?_) (hs := nilS)
            simp only [Act.put, pa]; try dsimp only [List.set]
            refine readyS [11] ?_
            refine detS undef [boxZ qa151, boxN qe152 typeError] (h1 := fun Wx hSw => by (have hz := hSw.box (b := qe152) (o := objE) 1 rfl; refine useZ5 hz fun z0 z1 z2 z3 z4 y0 y1 y2 y3 y4 => ?_; go_simp; exact ⟨rfl, hSw.set5 1 rfl (.string typeError) (.int .i64 0) (.int .i64 0) (.string ⟨#[]⟩) (.bool false)⟩)) (h2 := ?_) (hs := nilS)
            simp only [Act.put, pa]; try dsimp only [List.set]
            refine doneS (h := fun w23 S => ?_)
            go_wp2_with fail
            as_aux_lemma => (go_meet; exact ⟨_, _, rfl, rfl, S⟩)
          refine allocS 1 rfl (fun q => .pointer (some ⟨q, 0, none⟩)) (.cells #[.string ⟨#[]⟩, .int .i64 0, .int .i64 0, .string ⟨#[]⟩, .bool false] 38) (h1 := fun Wx => by go_simp) (h2 := fun qe155 => ?_) (hs := ?_)
          · simp only [Act.put, pa]; try dsimp only [List.set]
            try simp only [List.set_cons_zero, List.set_cons_succ]
            refine readyS [8] ?_
            refine allocS 0 rfl (fun q => .pointer (some ⟨q, 0, none⟩)) (.cells #[.int .i64 0, .int .i64 0, .string ⟨#[]⟩] 29) (h1 := fun Wx => by go_simp) (h2 := fun qa156 => ?_) (hs := nilS)
            simp only [Act.put, pa]; try dsimp only [List.set]
            try simp only [List.set_cons_zero, List.set_cons_succ]
            refine readyS [10] ?_
            refine detS undef [boxZ qa156, boxE qe155] (h1 := fun Wx hSw => by (have hz := hSw.box (b := qa156) (o := objZ) 0 rfl; refine useZ3 hz fun z0 z1 z2 y0 y1 y2 => ?_; go_simp; exact ⟨rfl, hSw.set3 0 rfl (.int .i64 0) (.int .i64 0) (.string ⟨#[]⟩)⟩)) (h2 := ?_) (hs := nilS)
            simp only [Act.put, pa]; try dsimp only [List.set]
            refine readyS [11] ?_
            refine detS undef [boxZ qa156, boxN qe155 typeError] (h1 := fun Wx hSw => by (have hz := hSw.box (b := qe155) (o := objE) 1 rfl; refine useZ5 hz fun z0 z1 z2 z3 z4 y0 y1 y2 y3 y4 => ?_; go_simp; exact ⟨rfl, hSw.set5 1 rfl (.string typeError) (.int .i64 0) (.int .i64 0) (.string ⟨#[]⟩) (.bool false)⟩)) (h2 := ?_) (hs := nilS)
            simp only [Act.put, pa]; try dsimp only [List.set]
            refine doneS (h := fun w23 S => ?_)
            go_wp2_with fail
            as_aux_lemma => (go_meet; exact ⟨_, _, rfl, rfl, S⟩)
          exact nilS
        case rest =>
          obtain ⟨qq0_15, qq1_15, rfl, rfl, S⟩ := hcut
          replace S : Sep w (boxZ qq0_15 :: boxN qq1_15 typeError :: boxE qe141 :: boxE qe131 :: boxW qq0_12 4 5 ⟨#[]⟩ :: boxE qq1_12 :: heapR h (HX [rowO kd hok P, rowO kd hok (P.take p), rowO kd hok (P.drop p), rowO kd hok P, rowO kd hok (P)]) :: boxW qa112 4 4 ⟨#[]⟩ :: boxE qe113 :: boxW qq0_10 4 3 ⟨#[]⟩ :: boxE qq1_10 :: boxW qq0_9 4 2 ⟨#[]⟩ :: boxE qq1_9 :: boxW qv1 4 1 ⟨#[]⟩ :: []) wc := by rw [Hb15_21.out] at S; exact S
          clear Hb15_21 Kb15_21 K15_2 K15_4 Cb15_21_0
          refine named (boxZ qq0_15 :: boxN qq1_15 typeError :: boxE qe141 :: boxE qe131 :: boxW qq0_12 4 5 ⟨#[]⟩ :: boxE qq1_12 :: heapR h (HX [rowO kd hok P, rowO kd hok (P.take p), rowO kd hok (P.drop p), rowO kd hok P, rowO kd hok (P)]) :: boxW qa112 4 4 ⟨#[]⟩ :: boxE qe113 :: boxW qq0_10 4 3 ⟨#[]⟩ :: boxE qq1_10 :: boxW qq0_9 4 2 ⟨#[]⟩ :: boxE qq1_9 :: boxW qv1 4 1 ⟨#[]⟩ :: [] : List Res) fun b16_23 hb16_23 => ?_
          have Hb16_23 := Lib.hid hb16_23
          have Kb16_23 : Hid (∀ W (Q : List Res), Sep w (Q ++ b16_23) W → True) := Lib.hid fun W Q T => by
            rw [hb16_23] at T
            trivial
          have K16_1 : Hid (∀ W (Q : List Res), Sep w (Q ++ b16_23) W → Calls Tryz.prog 16 #[.int .i64 5] W fun e W' => e = .returned (.agg #[.int .i64 2, .int .i64 5, .string ⟨#[]⟩]) ∧ Sep w (Q ++ b16_23) W') := Lib.hid fun W Q T => by
            exact (lnum_ok W 5).mono fun e W' ⟨e1, e2⟩ => ⟨e1, T.later e2⟩
          have K16_4 : Hid (∀ W (Q : List Res), Sep w (Q ++ b16_23) W → Calls Tryz.prog 59 #[.pointer (some ⟨h, 0, none⟩), .agg #[.int .i64 2, .int .i64 5, .string ⟨#[]⟩], .agg #[.int .i64 0, .int .i64 0, .string ⟨#[]⟩], .agg #[.int .i64 0, .int .i64 0, .string ⟨#[]⟩]] W fun e W' => e = .returned (.tuple #[zeroV, excN typeError]) ∧ Sep w (Q ++ b16_23) W') := Lib.hid fun W Q T => by
            rw [Hb16_23.out] at T ⊢
            exact sl_w1 T (Q.length + 6) (by rw [List.getElem?_append_right (by omega), Nat.add_sub_cancel_left]; rfl) (vI 5 (by decide)) V.zero V.zero (by decide) (HeapM.rowB_no _ _ (by decide))
          replace S := Lib.hid S
          clear hb16_23
          go_upto_region 16 with fail
          have S1 : Sep w ([] ++ b16_23) (wc) := by rw [Hb16_23.out]; exact S.out
          clear S
          refine regionL (E := [emptyR, emptyR]) (base := b16_23) (Sep.putE (Sep.putE S1)) ?_
          clear S1
          refine quietL ?_
          simp only [Act.put, pa]; try dsimp only [List.set]
          refine quietL (hy := fun E Wx hSw => by (go_simp; exact symCall (K16_1.out _ _ hSw))) (h := ?_)
          simp only [Act.put, pa]; try dsimp only [List.set]
          iterate 2 (refine quietL ?_; simp only [Act.put, pa]; try dsimp only [List.set])
          refine quietL (hy := fun E Wx hSw => by (go_simp; exact symCall (K16_4.out _ _ hSw))) (h := ?_)
          simp only [Act.put, pa]; try dsimp only [List.set]
          iterate 3 (refine quietL ?_; simp only [Act.put, pa]; try dsimp only [List.set])
          refine allocL 0 rfl (fun q => .pointer (some ⟨q, 0, none⟩)) (.cells #[.int .i64 0, .int .i64 0, .string ⟨#[]⟩] 29) (h1 := fun Wx => by go_simp) (h2 := fun qa161 => ?_)
          simp only [Act.put, pa]; try dsimp only [List.set]
          try simp only [List.set_cons_zero, List.set_cons_succ]
          refine allocL 1 rfl (fun q => .pointer (some ⟨q, 0, none⟩)) (.cells #[.string ⟨#[]⟩, .int .i64 0, .int .i64 0, .string ⟨#[]⟩, .bool false] 38) (h1 := fun Wx => by go_simp) (h2 := fun qe162 => ?_)
          simp only [Act.put, pa]; try dsimp only [List.set]
          try simp only [List.set_cons_zero, List.set_cons_succ]
          refine detL undef [boxZ qa161, boxE qe162] (h1 := fun Wx hSw => by (have hz := hSw.box (b := qa161) (o := objZ) 0 rfl; refine useZ3 hz fun z0 z1 z2 y0 y1 y2 => ?_; go_simp; exact ⟨rfl, hSw.set3 0 rfl (.int .i64 0) (.int .i64 0) (.string ⟨#[]⟩)⟩)) (h2 := ?_)
          simp only [Act.put, pa]; try dsimp only [List.set]
          refine detL undef [boxZ qa161, boxN qe162 typeError] (h1 := fun Wx hSw => by (have hz := hSw.box (b := qe162) (o := objE) 1 rfl; refine useZ5 hz fun z0 z1 z2 z3 z4 y0 y1 y2 y3 y4 => ?_; go_simp; exact ⟨rfl, hSw.set5 1 rfl (.string typeError) (.int .i64 0) (.int .i64 0) (.string ⟨#[]⟩) (.bool false)⟩)) (h2 := ?_)
          simp only [Act.put, pa]; try dsimp only [List.set]
          refine doneL (h := fun w25 S => ?_)
          replace S : Sep w (boxZ qa161 :: boxN qe162 typeError :: boxZ qq0_15 :: boxN qq1_15 typeError :: boxE qe141 :: boxE qe131 :: boxW qq0_12 4 5 ⟨#[]⟩ :: boxE qq1_12 :: heapR h (HX [rowO kd hok P, rowO kd hok (P.take p), rowO kd hok (P.drop p), rowO kd hok P, rowO kd hok (P)]) :: boxW qa112 4 4 ⟨#[]⟩ :: boxE qe113 :: boxW qq0_10 4 3 ⟨#[]⟩ :: boxE qq1_10 :: boxW qq0_9 4 2 ⟨#[]⟩ :: boxE qq1_9 :: boxW qv1 4 1 ⟨#[]⟩ :: []) w25 := by rw [Hb16_23.out] at S; exact S
          clear Hb16_23 Kb16_23 K16_1 K16_4
          obtain ⟨z, hz⟩ : ∃ z, z = ((P.length : Int) == 0) := ⟨_, rfl⟩
          have HZ := Lib.hid hz
          clear hz
          by_cases hzt : z = true
          ·
            have hzi : ((P.length : Int) == 0) = true := by rw [← HZ.out]; simpa using hzt
            clear hzt
            obtain ⟨q1, q2, q3, q4⟩ := HKF.out
            have q5 : ¬ kd = 0 := by omega
            have q6 : (kd == 0) = false := by simpa using q5
            refine named (boxZ qa161 :: boxN qe162 typeError :: boxZ qq0_15 :: boxN qq1_15 typeError :: boxE qe141 :: boxE qe131 :: boxW qq0_12 4 5 ⟨#[]⟩ :: boxE qq1_12 :: heapR h (HX [rowO kd hok P, rowO kd hok (P.take p), rowO kd hok (P.drop p), rowO kd hok P, rowO kd hok (P)]) :: boxW qa112 4 4 ⟨#[]⟩ :: boxE qe113 :: boxW qq0_10 4 3 ⟨#[]⟩ :: boxE qq1_10 :: boxW qq0_9 4 2 ⟨#[]⟩ :: boxE qq1_9 :: boxW qv1 4 1 ⟨#[]⟩ :: [] : List Res) fun b17_25 hb17_25 => ?_
            have Hb17_25 := Lib.hid hb17_25
            have Kb17_25 : Hid (∀ W (Q : List Res), Sep w (Q ++ b17_25) W → True) := Lib.hid fun W Q T => by
              rw [hb17_25] at T
              trivial
            have Cb17_25_0 : Hid (∀ W (Q : List Res), Sep w (Q ++ b17_25) W → W.cell? ⟨qq0_12, 0, none⟩ = some (.int .i64 4) ∧ W.cell? ⟨qq0_12, 1, none⟩ = some (.int .i64 5) ∧ W.cell? ⟨qq0_12, 2, none⟩ = some (.string ⟨#[]⟩)) := Lib.hid fun W Q T => by
              rw [hb17_25] at T
              have i0 := T.box (b := qq0_12) (o := objW 4 5 ⟨#[]⟩) (Q.length + 6) (by rw [List.getElem?_append_right (by omega), Nat.add_sub_cancel_left]; rfl)
              exact ⟨cellAt i0 0 rfl, cellAt i0 1 rfl, cellAt i0 2 rfl⟩
            have Cb17_25_1 : Hid (∀ W (Q : List Res), Sep w (Q ++ b17_25) W → W.cell? ⟨qv1, 0, none⟩ = some (.int .i64 4) ∧ W.cell? ⟨qv1, 1, none⟩ = some (.int .i64 1) ∧ W.cell? ⟨qv1, 2, none⟩ = some (.string ⟨#[]⟩)) := Lib.hid fun W Q T => by
              rw [hb17_25] at T
              have i0 := T.box (b := qv1) (o := objW 4 1 ⟨#[]⟩) (Q.length + 15) (by rw [List.getElem?_append_right (by omega), Nat.add_sub_cancel_left]; rfl)
              exact ⟨cellAt i0 0 rfl, cellAt i0 1 rfl, cellAt i0 2 rfl⟩
            replace S := Lib.hid S
            clear hb17_25
            go_upto_region 17 with fail
            have S1 : Sep w ([] ++ b17_25) (w25) := by rw [Hb17_25.out]; exact S.out
            clear S
            refine regionL (E := []) (base := b17_25) S1 ?_
            clear S1
            refine quietL ?_
            simp only [Act.put, pa]; try dsimp only [List.set]
            refine quietL (v := .int .u8 kd) (hy := fun E Wx hSw => by (go_simp; exact ⟨rfl, hSw⟩)) (h := ?_)
            simp only [Act.put, pa]; try dsimp only [List.set]
            iterate 2 (refine quietL (v := .bool false) (hy := fun E Wx hSw => by (go_simp; exact ⟨rfl, hSw⟩)) (h := ?_); simp only [Act.put, pa]; try dsimp only [List.set])
            refine quietL ?_
            simp only [Act.put, pa]; try dsimp only [List.set]
            refine quietL (v := .bool true) (hy := fun E Wx hSw => by (go_simp; exact ⟨rfl, hSw⟩)) (h := ?_)
            simp only [Act.put, pa]; try dsimp only [List.set]
            refine quietL ?_
            simp only [Act.put, pa]; try dsimp only [List.set]
            refine quietL (hy := fun E Wx hSw => by ((refine and3 (Cb17_25_0.out _ _ hSw) fun u0 u1 u2 => ?_); go_simp; exact ⟨rfl, hSw⟩)) (h := ?_)
            simp only [Act.put, pa]; try dsimp only [List.set]
            refine quietL (hy := fun E Wx hSw => by ((refine and3 (Cb17_25_1.out _ _ hSw) fun u0 u1 u2 => ?_); go_simp; exact ⟨rfl, hSw⟩)) (h := ?_)
            simp only [Act.put, pa]; try dsimp only [List.set]
            refine quietL ?_
            simp only [Act.put, pa]; try dsimp only [List.set]
            iterate 2 (refine quietL (v := .bool true) (hy := fun E Wx hSw => by (go_simp; exact ⟨rfl, hSw⟩)) (h := ?_); simp only [Act.put, pa]; try dsimp only [List.set])
            refine quietL ?_
            simp only [Act.put, pa]; try dsimp only [List.set]
            iterate 8 (refine skipL ?_; simp only [Act.put, pa]; try dsimp only [List.set])
            refine quietL (v := .bool true) (hy := fun E Wx hSw => by (go_simp; exact ⟨rfl, hSw⟩)) (h := ?_)
            simp only [Act.put, pa]; try dsimp only [List.set]
            refine quietL ?_
            simp only [Act.put, pa]; try dsimp only [List.set]
            refine doneL (h := fun w27 S => ?_)
            replace S : Sep w (boxZ qa161 :: boxN qe162 typeError :: boxZ qq0_15 :: boxN qq1_15 typeError :: boxE qe141 :: boxE qe131 :: boxW qq0_12 4 5 ⟨#[]⟩ :: boxE qq1_12 :: heapR h (HX [rowO kd hok P, rowO kd hok (P.take p), rowO kd hok (P.drop p), rowO kd hok P, rowO kd hok (P)]) :: boxW qa112 4 4 ⟨#[]⟩ :: boxE qe113 :: boxW qq0_10 4 3 ⟨#[]⟩ :: boxE qq1_10 :: boxW qq0_9 4 2 ⟨#[]⟩ :: boxE qq1_9 :: boxW qv1 4 1 ⟨#[]⟩ :: []) w27 := by rw [Hb17_25.out] at S; exact S
            clear Hb17_25 Kb17_25 Cb17_25_0 Cb17_25_1
            refine named (boxZ qa161 :: boxN qe162 typeError :: boxZ qq0_15 :: boxN qq1_15 typeError :: boxE qe141 :: boxE qe131 :: boxW qq0_12 4 5 ⟨#[]⟩ :: boxE qq1_12 :: heapR h (HX [rowO kd hok P, rowO kd hok (P.take p), rowO kd hok (P.drop p), rowO kd hok P, rowO kd hok (P)]) :: boxW qa112 4 4 ⟨#[]⟩ :: boxE qe113 :: boxW qq0_10 4 3 ⟨#[]⟩ :: boxE qq1_10 :: boxW qq0_9 4 2 ⟨#[]⟩ :: boxE qq1_9 :: boxW qv1 4 1 ⟨#[]⟩ :: [] : List Res) fun b18_27 hb18_27 => ?_
            have Hb18_27 := Lib.hid hb18_27
            have Kb18_27 : Hid (∀ W (Q : List Res), Sep w (Q ++ b18_27) W → True) := Lib.hid fun W Q T => by
              rw [hb18_27] at T
              trivial
            have Cb18_27_0 : Hid (∀ W (Q : List Res), Sep w (Q ++ b18_27) W → W.cell? ⟨qe113, 0, none⟩ = some (.string ⟨#[]⟩) ∧ W.cell? ⟨qe113, 1, none⟩ = some (.int .i64 0) ∧ W.cell? ⟨qe113, 2, none⟩ = some (.int .i64 0) ∧ W.cell? ⟨qe113, 3, none⟩ = some (.string ⟨#[]⟩) ∧ W.cell? ⟨qe113, 4, none⟩ = some (.bool false)) := Lib.hid fun W Q T => by
              rw [hb18_27] at T
              have i0 := T.box (b := qe113) (o := objE) (Q.length + 10) (by rw [List.getElem?_append_right (by omega), Nat.add_sub_cancel_left]; rfl)
              exact ⟨cellAt i0 0 rfl, cellAt i0 1 rfl, cellAt i0 2 rfl, cellAt i0 3 rfl, cellAt i0 4 rfl⟩
            have Cb18_27_1 : Hid (∀ W (Q : List Res), Sep w (Q ++ b18_27) W → W.cell? ⟨qe131, 0, none⟩ = some (.string ⟨#[]⟩) ∧ W.cell? ⟨qe131, 1, none⟩ = some (.int .i64 0) ∧ W.cell? ⟨qe131, 2, none⟩ = some (.int .i64 0) ∧ W.cell? ⟨qe131, 3, none⟩ = some (.string ⟨#[]⟩) ∧ W.cell? ⟨qe131, 4, none⟩ = some (.bool false)) := Lib.hid fun W Q T => by
              rw [hb18_27] at T
              have i0 := T.box (b := qe131) (o := objE) (Q.length + 5) (by rw [List.getElem?_append_right (by omega), Nat.add_sub_cancel_left]; rfl)
              exact ⟨cellAt i0 0 rfl, cellAt i0 1 rfl, cellAt i0 2 rfl, cellAt i0 3 rfl, cellAt i0 4 rfl⟩
            have Cb18_27_2 : Hid (∀ W (Q : List Res), Sep w (Q ++ b18_27) W → W.cell? ⟨qe141, 0, none⟩ = some (.string ⟨#[]⟩) ∧ W.cell? ⟨qe141, 1, none⟩ = some (.int .i64 0) ∧ W.cell? ⟨qe141, 2, none⟩ = some (.int .i64 0) ∧ W.cell? ⟨qe141, 3, none⟩ = some (.string ⟨#[]⟩) ∧ W.cell? ⟨qe141, 4, none⟩ = some (.bool false)) := Lib.hid fun W Q T => by
              rw [hb18_27] at T
              have i0 := T.box (b := qe141) (o := objE) (Q.length + 4) (by rw [List.getElem?_append_right (by omega), Nat.add_sub_cancel_left]; rfl)
              exact ⟨cellAt i0 0 rfl, cellAt i0 1 rfl, cellAt i0 2 rfl, cellAt i0 3 rfl, cellAt i0 4 rfl⟩
            have Cb18_27_3 : Hid (∀ W (Q : List Res), Sep w (Q ++ b18_27) W → W.cell? ⟨qe162, 0, none⟩ = some (.string typeError) ∧ W.cell? ⟨qe162, 1, none⟩ = some (.int .i64 0) ∧ W.cell? ⟨qe162, 2, none⟩ = some (.int .i64 0) ∧ W.cell? ⟨qe162, 3, none⟩ = some (.string ⟨#[]⟩) ∧ W.cell? ⟨qe162, 4, none⟩ = some (.bool false)) := Lib.hid fun W Q T => by
              rw [hb18_27] at T
              have i0 := T.box (b := qe162) (o := objN typeError) (Q.length + 1) (by rw [List.getElem?_append_right (by omega), Nat.add_sub_cancel_left]; rfl)
              exact ⟨cellAt i0 0 rfl, cellAt i0 1 rfl, cellAt i0 2 rfl, cellAt i0 3 rfl, cellAt i0 4 rfl⟩
            have Cb18_27_4 : Hid (∀ W (Q : List Res), Sep w (Q ++ b18_27) W → W.cell? ⟨qq1_10, 0, none⟩ = some (.string ⟨#[]⟩) ∧ W.cell? ⟨qq1_10, 1, none⟩ = some (.int .i64 0) ∧ W.cell? ⟨qq1_10, 2, none⟩ = some (.int .i64 0) ∧ W.cell? ⟨qq1_10, 3, none⟩ = some (.string ⟨#[]⟩) ∧ W.cell? ⟨qq1_10, 4, none⟩ = some (.bool false)) := Lib.hid fun W Q T => by
              rw [hb18_27] at T
              have i0 := T.box (b := qq1_10) (o := objE) (Q.length + 12) (by rw [List.getElem?_append_right (by omega), Nat.add_sub_cancel_left]; rfl)
              exact ⟨cellAt i0 0 rfl, cellAt i0 1 rfl, cellAt i0 2 rfl, cellAt i0 3 rfl, cellAt i0 4 rfl⟩
            have Cb18_27_5 : Hid (∀ W (Q : List Res), Sep w (Q ++ b18_27) W → W.cell? ⟨qq1_12, 0, none⟩ = some (.string ⟨#[]⟩) ∧ W.cell? ⟨qq1_12, 1, none⟩ = some (.int .i64 0) ∧ W.cell? ⟨qq1_12, 2, none⟩ = some (.int .i64 0) ∧ W.cell? ⟨qq1_12, 3, none⟩ = some (.string ⟨#[]⟩) ∧ W.cell? ⟨qq1_12, 4, none⟩ = some (.bool false)) := Lib.hid fun W Q T => by
              rw [hb18_27] at T
              have i0 := T.box (b := qq1_12) (o := objE) (Q.length + 7) (by rw [List.getElem?_append_right (by omega), Nat.add_sub_cancel_left]; rfl)
              exact ⟨cellAt i0 0 rfl, cellAt i0 1 rfl, cellAt i0 2 rfl, cellAt i0 3 rfl, cellAt i0 4 rfl⟩
            have Cb18_27_6 : Hid (∀ W (Q : List Res), Sep w (Q ++ b18_27) W → W.cell? ⟨qq1_15, 0, none⟩ = some (.string typeError) ∧ W.cell? ⟨qq1_15, 1, none⟩ = some (.int .i64 0) ∧ W.cell? ⟨qq1_15, 2, none⟩ = some (.int .i64 0) ∧ W.cell? ⟨qq1_15, 3, none⟩ = some (.string ⟨#[]⟩) ∧ W.cell? ⟨qq1_15, 4, none⟩ = some (.bool false)) := Lib.hid fun W Q T => by
              rw [hb18_27] at T
              have i0 := T.box (b := qq1_15) (o := objN typeError) (Q.length + 3) (by rw [List.getElem?_append_right (by omega), Nat.add_sub_cancel_left]; rfl)
              exact ⟨cellAt i0 0 rfl, cellAt i0 1 rfl, cellAt i0 2 rfl, cellAt i0 3 rfl, cellAt i0 4 rfl⟩
            have Cb18_27_7 : Hid (∀ W (Q : List Res), Sep w (Q ++ b18_27) W → W.cell? ⟨qq1_9, 0, none⟩ = some (.string ⟨#[]⟩) ∧ W.cell? ⟨qq1_9, 1, none⟩ = some (.int .i64 0) ∧ W.cell? ⟨qq1_9, 2, none⟩ = some (.int .i64 0) ∧ W.cell? ⟨qq1_9, 3, none⟩ = some (.string ⟨#[]⟩) ∧ W.cell? ⟨qq1_9, 4, none⟩ = some (.bool false)) := Lib.hid fun W Q T => by
              rw [hb18_27] at T
              have i0 := T.box (b := qq1_9) (o := objE) (Q.length + 14) (by rw [List.getElem?_append_right (by omega), Nat.add_sub_cancel_left]; rfl)
              exact ⟨cellAt i0 0 rfl, cellAt i0 1 rfl, cellAt i0 2 rfl, cellAt i0 3 rfl, cellAt i0 4 rfl⟩
            have K18_1 : Hid (∀ W (Q : List Res), Sep w (Q ++ b18_27) W → Calls Tryz.prog 19 #[excZ] W fun e W' => e = .returned (.bool true) ∧ Sep w (Q ++ b18_27) W') := Lib.hid fun W Q T => by
              exact (none_z W).mono fun e W' ⟨e1, e2⟩ => ⟨e1, T.later e2⟩
            have K18_4 : Hid (∀ W (Q : List Res), Sep w (Q ++ b18_27) W → Calls Tryz.prog 19 #[excZ] W fun e W' => e = .returned (.bool true) ∧ Sep w (Q ++ b18_27) W') := Lib.hid fun W Q T => by
              exact (none_z W).mono fun e W' ⟨e1, e2⟩ => ⟨e1, T.later e2⟩
            have K18_8 : Hid (∀ W (Q : List Res), Sep w (Q ++ b18_27) W → Calls Tryz.prog 19 #[excZ] W fun e W' => e = .returned (.bool true) ∧ Sep w (Q ++ b18_27) W') := Lib.hid fun W Q T => by
              exact (none_z W).mono fun e W' ⟨e1, e2⟩ => ⟨e1, T.later e2⟩
            have K18_12 : Hid (∀ W (Q : List Res), Sep w (Q ++ b18_27) W → Calls Tryz.prog 19 #[excZ] W fun e W' => e = .returned (.bool true) ∧ Sep w (Q ++ b18_27) W') := Lib.hid fun W Q T => by
              exact (none_z W).mono fun e W' ⟨e1, e2⟩ => ⟨e1, T.later e2⟩
            have K18_16 : Hid (∀ W (Q : List Res), Sep w (Q ++ b18_27) W → Calls Tryz.prog 19 #[excZ] W fun e W' => e = .returned (.bool true) ∧ Sep w (Q ++ b18_27) W') := Lib.hid fun W Q T => by
              exact (none_z W).mono fun e W' ⟨e1, e2⟩ => ⟨e1, T.later e2⟩
            have K18_20 : Hid (∀ W (Q : List Res), Sep w (Q ++ b18_27) W → Calls Tryz.prog 19 #[excZ] W fun e W' => e = .returned (.bool true) ∧ Sep w (Q ++ b18_27) W') := Lib.hid fun W Q T => by
              exact (none_z W).mono fun e W' ⟨e1, e2⟩ => ⟨e1, T.later e2⟩
            have K18_33 : Hid (∀ W (Q : List Res), Sep w (Q ++ b18_27) W → Calls Tryz.prog 21 #[excN typeError, .string typeError] W fun e W' => e = .returned (.bool true) ∧ Sep w (Q ++ b18_27) W') := Lib.hid fun W Q T => by
              exact (raised_type W).mono fun e W' ⟨e1, e2⟩ => ⟨e1, T.later e2⟩
            have K18_37 : Hid (∀ W (Q : List Res), Sep w (Q ++ b18_27) W → Calls Tryz.prog 21 #[excN typeError, .string typeError] W fun e W' => e = .returned (.bool true) ∧ Sep w (Q ++ b18_27) W') := Lib.hid fun W Q T => by
              exact (raised_type W).mono fun e W' ⟨e1, e2⟩ => ⟨e1, T.later e2⟩
            replace S := Lib.hid S
            clear hb18_27
            go_upto_region 18 with fail
            have S1 : Sep w ([] ++ b18_27) (w27) := by rw [Hb18_27.out]; exact S.out
            clear S
            refine regionL (E := []) (base := b18_27) S1 ?_
            clear S1
            refine quietL (hy := fun E Wx hSw => by ((refine and5 (Cb18_27_7.out _ _ hSw) fun u0 u1 u2 u3 u4 => ?_); go_simp; exact ⟨rfl, hSw⟩)) (h := ?_)
            simp only [Act.put, pa]; try dsimp only [List.set]
            refine quietL (hy := fun E Wx hSw => by (go_simp; exact symCall (K18_1.out _ _ hSw))) (h := ?_)
            simp only [Act.put, pa]; try dsimp only [List.set]
            refine quietL ?_
            simp only [Act.put, pa]; try dsimp only [List.set]
            refine quietL (hy := fun E Wx hSw => by ((refine and5 (Cb18_27_4.out _ _ hSw) fun u0 u1 u2 u3 u4 => ?_); go_simp; exact ⟨rfl, hSw⟩)) (h := ?_)
            simp only [Act.put, pa]; try dsimp only [List.set]
            refine quietL (hy := fun E Wx hSw => by (go_simp; exact symCall (K18_4.out _ _ hSw))) (h := ?_)
            simp only [Act.put, pa]; try dsimp only [List.set]
            iterate 2 (refine quietL ?_; simp only [Act.put, pa]; try dsimp only [List.set])
            refine quietL (hy := fun E Wx hSw => by ((refine and5 (Cb18_27_0.out _ _ hSw) fun u0 u1 u2 u3 u4 => ?_); go_simp; exact ⟨rfl, hSw⟩)) (h := ?_)
            simp only [Act.put, pa]; try dsimp only [List.set]
            refine quietL (hy := fun E Wx hSw => by (go_simp; exact symCall (K18_8.out _ _ hSw))) (h := ?_)
            simp only [Act.put, pa]; try dsimp only [List.set]
            iterate 2 (refine quietL ?_; simp only [Act.put, pa]; try dsimp only [List.set])
            refine quietL (hy := fun E Wx hSw => by ((refine and5 (Cb18_27_5.out _ _ hSw) fun u0 u1 u2 u3 u4 => ?_); go_simp; exact ⟨rfl, hSw⟩)) (h := ?_)
            simp only [Act.put, pa]; try dsimp only [List.set]
            refine quietL (hy := fun E Wx hSw => by (go_simp; exact symCall (K18_12.out _ _ hSw))) (h := ?_)
            simp only [Act.put, pa]; try dsimp only [List.set]
            iterate 2 (refine quietL ?_; simp only [Act.put, pa]; try dsimp only [List.set])
            refine quietL (hy := fun E Wx hSw => by ((refine and5 (Cb18_27_1.out _ _ hSw) fun u0 u1 u2 u3 u4 => ?_); go_simp; exact ⟨rfl, hSw⟩)) (h := ?_)
            simp only [Act.put, pa]; try dsimp only [List.set]
            refine quietL (hy := fun E Wx hSw => by (go_simp; exact symCall (K18_16.out _ _ hSw))) (h := ?_)
            simp only [Act.put, pa]; try dsimp only [List.set]
            iterate 2 (refine quietL ?_; simp only [Act.put, pa]; try dsimp only [List.set])
            refine quietL (hy := fun E Wx hSw => by ((refine and5 (Cb18_27_2.out _ _ hSw) fun u0 u1 u2 u3 u4 => ?_); go_simp; exact ⟨rfl, hSw⟩)) (h := ?_)
            simp only [Act.put, pa]; try dsimp only [List.set]
            refine quietL (hy := fun E Wx hSw => by (go_simp; exact symCall (K18_20.out _ _ hSw))) (h := ?_)
            simp only [Act.put, pa]; try dsimp only [List.set]
            iterate 11 (refine quietL ?_; simp only [Act.put, pa]; try dsimp only [List.set])
            refine quietL (hy := fun E Wx hSw => by ((refine and5 (Cb18_27_6.out _ _ hSw) fun u0 u1 u2 u3 u4 => ?_); go_simp; exact ⟨rfl, hSw⟩)) (h := ?_)
            simp only [Act.put, pa]; try dsimp only [List.set]
            refine quietL (hy := fun E Wx hSw => by (go_simp; exact symCall (K18_33.out _ _ hSw))) (h := ?_)
            simp only [Act.put, pa]; try dsimp only [List.set]
            iterate 2 (refine quietL ?_; simp only [Act.put, pa]; try dsimp only [List.set])
            refine quietL (hy := fun E Wx hSw => by ((refine and5 (Cb18_27_3.out _ _ hSw) fun u0 u1 u2 u3 u4 => ?_); go_simp; exact ⟨rfl, hSw⟩)) (h := ?_)
            simp only [Act.put, pa]; try dsimp only [List.set]
            refine quietL (hy := fun E Wx hSw => by (go_simp; exact symCall (K18_37.out _ _ hSw))) (h := ?_)
            simp only [Act.put, pa]; try dsimp only [List.set]
            iterate 2 (refine quietL ?_; simp only [Act.put, pa]; try dsimp only [List.set])
            refine doneL (h := fun w29 S => ?_)
            replace S : Sep w (boxZ qa161 :: boxN qe162 typeError :: boxZ qq0_15 :: boxN qq1_15 typeError :: boxE qe141 :: boxE qe131 :: boxW qq0_12 4 5 ⟨#[]⟩ :: boxE qq1_12 :: heapR h (HX [rowO kd hok P, rowO kd hok (P.take p), rowO kd hok (P.drop p), rowO kd hok P, rowO kd hok (P)]) :: boxW qa112 4 4 ⟨#[]⟩ :: boxE qe113 :: boxW qq0_10 4 3 ⟨#[]⟩ :: boxE qq1_10 :: boxW qq0_9 4 2 ⟨#[]⟩ :: boxE qq1_9 :: boxW qv1 4 1 ⟨#[]⟩ :: []) w29 := by rw [Hb18_27.out] at S; exact S
            clear Hb18_27 Kb18_27 K18_1 K18_4 K18_8 K18_12 K18_16 K18_20 K18_33 K18_37 Cb18_27_0 Cb18_27_1 Cb18_27_2 Cb18_27_3 Cb18_27_4 Cb18_27_5 Cb18_27_6 Cb18_27_7
            replace S := Lib.hid S.below
            go_wp2
            go_ret
            exact ⟨rfl, S.out⟩
          ·
            have hzi : ((P.length : Int) == 0) = false := by rw [← HZ.out]; simpa using hzt
            clear hzt
            obtain ⟨q1, q2, q3, q4⟩ := HKF.out
            have q5 : ¬ kd = 0 := by omega
            have q6 : (kd == 0) = false := by simpa using q5
            refine named (boxZ qa161 :: boxN qe162 typeError :: boxZ qq0_15 :: boxN qq1_15 typeError :: boxE qe141 :: boxE qe131 :: boxW qq0_12 4 5 ⟨#[]⟩ :: boxE qq1_12 :: heapR h (HX [rowO kd hok P, rowO kd hok (P.take p), rowO kd hok (P.drop p), rowO kd hok P, rowO kd hok (P)]) :: boxW qa112 4 4 ⟨#[]⟩ :: boxE qe113 :: boxW qq0_10 4 3 ⟨#[]⟩ :: boxE qq1_10 :: boxW qq0_9 4 2 ⟨#[]⟩ :: boxE qq1_9 :: boxW qv1 4 1 ⟨#[]⟩ :: [] : List Res) fun b17_25 hb17_25 => ?_
            have Hb17_25 := Lib.hid hb17_25
            have Kb17_25 : Hid (∀ W (Q : List Res), Sep w (Q ++ b17_25) W → True) := Lib.hid fun W Q T => by
              rw [hb17_25] at T
              trivial
            have Cb17_25_0 : Hid (∀ W (Q : List Res), Sep w (Q ++ b17_25) W → W.cell? ⟨qa112, 0, none⟩ = some (.int .i64 4) ∧ W.cell? ⟨qa112, 1, none⟩ = some (.int .i64 4) ∧ W.cell? ⟨qa112, 2, none⟩ = some (.string ⟨#[]⟩)) := Lib.hid fun W Q T => by
              rw [hb17_25] at T
              have i0 := T.box (b := qa112) (o := objW 4 4 ⟨#[]⟩) (Q.length + 9) (by rw [List.getElem?_append_right (by omega), Nat.add_sub_cancel_left]; rfl)
              exact ⟨cellAt i0 0 rfl, cellAt i0 1 rfl, cellAt i0 2 rfl⟩
            have Cb17_25_1 : Hid (∀ W (Q : List Res), Sep w (Q ++ b17_25) W → W.cell? ⟨qq0_12, 0, none⟩ = some (.int .i64 4) ∧ W.cell? ⟨qq0_12, 1, none⟩ = some (.int .i64 5) ∧ W.cell? ⟨qq0_12, 2, none⟩ = some (.string ⟨#[]⟩)) := Lib.hid fun W Q T => by
              rw [hb17_25] at T
              have i0 := T.box (b := qq0_12) (o := objW 4 5 ⟨#[]⟩) (Q.length + 6) (by rw [List.getElem?_append_right (by omega), Nat.add_sub_cancel_left]; rfl)
              exact ⟨cellAt i0 0 rfl, cellAt i0 1 rfl, cellAt i0 2 rfl⟩
            have Cb17_25_2 : Hid (∀ W (Q : List Res), Sep w (Q ++ b17_25) W → W.cell? ⟨qv1, 0, none⟩ = some (.int .i64 4) ∧ W.cell? ⟨qv1, 1, none⟩ = some (.int .i64 1) ∧ W.cell? ⟨qv1, 2, none⟩ = some (.string ⟨#[]⟩)) := Lib.hid fun W Q T => by
              rw [hb17_25] at T
              have i0 := T.box (b := qv1) (o := objW 4 1 ⟨#[]⟩) (Q.length + 15) (by rw [List.getElem?_append_right (by omega), Nat.add_sub_cancel_left]; rfl)
              exact ⟨cellAt i0 0 rfl, cellAt i0 1 rfl, cellAt i0 2 rfl⟩
            replace S := Lib.hid S
            clear hb17_25
            go_upto_region 17 with fail
            have S1 : Sep w ([] ++ b17_25) (w25) := by rw [Hb17_25.out]; exact S.out
            clear S
            refine regionL (E := []) (base := b17_25) S1 ?_
            clear S1
            refine quietL ?_
            simp only [Act.put, pa]; try dsimp only [List.set]
            refine quietL (v := .int .u8 kd) (hy := fun E Wx hSw => by (go_simp; exact ⟨rfl, hSw⟩)) (h := ?_)
            simp only [Act.put, pa]; try dsimp only [List.set]
            iterate 2 (refine quietL (v := .bool false) (hy := fun E Wx hSw => by (go_simp; exact ⟨rfl, hSw⟩)) (h := ?_); simp only [Act.put, pa]; try dsimp only [List.set])
            refine quietL ?_
            simp only [Act.put, pa]; try dsimp only [List.set]
            refine quietL (v := .bool false) (hy := fun E Wx hSw => by (go_simp; exact ⟨rfl, hSw⟩)) (h := ?_)
            simp only [Act.put, pa]; try dsimp only [List.set]
            refine quietL ?_
            simp only [Act.put, pa]; try dsimp only [List.set]
            iterate 3 (refine skipL ?_; simp only [Act.put, pa]; try dsimp only [List.set])
            iterate 2 (refine quietL (v := .bool false) (hy := fun E Wx hSw => by (go_simp; exact ⟨rfl, hSw⟩)) (h := ?_); simp only [Act.put, pa]; try dsimp only [List.set])
            refine quietL ?_
            simp only [Act.put, pa]; try dsimp only [List.set]
            refine quietL (hy := fun E Wx hSw => by ((refine and3 (Cb17_25_1.out _ _ hSw) fun u0 u1 u2 => ?_); go_simp; exact ⟨rfl, hSw⟩)) (h := ?_)
            simp only [Act.put, pa]; try dsimp only [List.set]
            refine quietL (hy := fun E Wx hSw => by ((refine and3 (Cb17_25_2.out _ _ hSw) fun u0 u1 u2 => ?_); go_simp; exact ⟨rfl, hSw⟩)) (h := ?_)
            simp only [Act.put, pa]; try dsimp only [List.set]
            iterate 2 (refine quietL ?_; simp only [Act.put, pa]; try dsimp only [List.set])
            refine quietL (hy := fun E Wx hSw => by ((refine and3 (Cb17_25_1.out _ _ hSw) fun u0 u1 u2 => ?_); go_simp; exact ⟨rfl, hSw⟩)) (h := ?_)
            simp only [Act.put, pa]; try dsimp only [List.set]
            refine quietL (hy := fun E Wx hSw => by ((refine and3 (Cb17_25_0.out _ _ hSw) fun u0 u1 u2 => ?_); go_simp; exact ⟨rfl, hSw⟩)) (h := ?_)
            simp only [Act.put, pa]; try dsimp only [List.set]
            refine quietL ?_
            simp only [Act.put, pa]; try dsimp only [List.set]
            iterate 2 (refine quietL (v := .bool true) (hy := fun E Wx hSw => by (go_simp; exact ⟨rfl, hSw⟩)) (h := ?_); simp only [Act.put, pa]; try dsimp only [List.set])
            refine quietL ?_
            simp only [Act.put, pa]; try dsimp only [List.set]
            refine doneL (h := fun w27 S => ?_)
            replace S : Sep w (boxZ qa161 :: boxN qe162 typeError :: boxZ qq0_15 :: boxN qq1_15 typeError :: boxE qe141 :: boxE qe131 :: boxW qq0_12 4 5 ⟨#[]⟩ :: boxE qq1_12 :: heapR h (HX [rowO kd hok P, rowO kd hok (P.take p), rowO kd hok (P.drop p), rowO kd hok P, rowO kd hok (P)]) :: boxW qa112 4 4 ⟨#[]⟩ :: boxE qe113 :: boxW qq0_10 4 3 ⟨#[]⟩ :: boxE qq1_10 :: boxW qq0_9 4 2 ⟨#[]⟩ :: boxE qq1_9 :: boxW qv1 4 1 ⟨#[]⟩ :: []) w27 := by rw [Hb17_25.out] at S; exact S
            clear Hb17_25 Kb17_25 Cb17_25_0 Cb17_25_1 Cb17_25_2
            refine named (boxZ qa161 :: boxN qe162 typeError :: boxZ qq0_15 :: boxN qq1_15 typeError :: boxE qe141 :: boxE qe131 :: boxW qq0_12 4 5 ⟨#[]⟩ :: boxE qq1_12 :: heapR h (HX [rowO kd hok P, rowO kd hok (P.take p), rowO kd hok (P.drop p), rowO kd hok P, rowO kd hok (P)]) :: boxW qa112 4 4 ⟨#[]⟩ :: boxE qe113 :: boxW qq0_10 4 3 ⟨#[]⟩ :: boxE qq1_10 :: boxW qq0_9 4 2 ⟨#[]⟩ :: boxE qq1_9 :: boxW qv1 4 1 ⟨#[]⟩ :: [] : List Res) fun b18_27 hb18_27 => ?_
            have Hb18_27 := Lib.hid hb18_27
            have Kb18_27 : Hid (∀ W (Q : List Res), Sep w (Q ++ b18_27) W → True) := Lib.hid fun W Q T => by
              rw [hb18_27] at T
              trivial
            have Cb18_27_0 : Hid (∀ W (Q : List Res), Sep w (Q ++ b18_27) W → W.cell? ⟨qe113, 0, none⟩ = some (.string ⟨#[]⟩) ∧ W.cell? ⟨qe113, 1, none⟩ = some (.int .i64 0) ∧ W.cell? ⟨qe113, 2, none⟩ = some (.int .i64 0) ∧ W.cell? ⟨qe113, 3, none⟩ = some (.string ⟨#[]⟩) ∧ W.cell? ⟨qe113, 4, none⟩ = some (.bool false)) := Lib.hid fun W Q T => by
              rw [hb18_27] at T
              have i0 := T.box (b := qe113) (o := objE) (Q.length + 10) (by rw [List.getElem?_append_right (by omega), Nat.add_sub_cancel_left]; rfl)
              exact ⟨cellAt i0 0 rfl, cellAt i0 1 rfl, cellAt i0 2 rfl, cellAt i0 3 rfl, cellAt i0 4 rfl⟩
            have Cb18_27_1 : Hid (∀ W (Q : List Res), Sep w (Q ++ b18_27) W → W.cell? ⟨qe131, 0, none⟩ = some (.string ⟨#[]⟩) ∧ W.cell? ⟨qe131, 1, none⟩ = some (.int .i64 0) ∧ W.cell? ⟨qe131, 2, none⟩ = some (.int .i64 0) ∧ W.cell? ⟨qe131, 3, none⟩ = some (.string ⟨#[]⟩) ∧ W.cell? ⟨qe131, 4, none⟩ = some (.bool false)) := Lib.hid fun W Q T => by
              rw [hb18_27] at T
              have i0 := T.box (b := qe131) (o := objE) (Q.length + 5) (by rw [List.getElem?_append_right (by omega), Nat.add_sub_cancel_left]; rfl)
              exact ⟨cellAt i0 0 rfl, cellAt i0 1 rfl, cellAt i0 2 rfl, cellAt i0 3 rfl, cellAt i0 4 rfl⟩
            have Cb18_27_2 : Hid (∀ W (Q : List Res), Sep w (Q ++ b18_27) W → W.cell? ⟨qe141, 0, none⟩ = some (.string ⟨#[]⟩) ∧ W.cell? ⟨qe141, 1, none⟩ = some (.int .i64 0) ∧ W.cell? ⟨qe141, 2, none⟩ = some (.int .i64 0) ∧ W.cell? ⟨qe141, 3, none⟩ = some (.string ⟨#[]⟩) ∧ W.cell? ⟨qe141, 4, none⟩ = some (.bool false)) := Lib.hid fun W Q T => by
              rw [hb18_27] at T
              have i0 := T.box (b := qe141) (o := objE) (Q.length + 4) (by rw [List.getElem?_append_right (by omega), Nat.add_sub_cancel_left]; rfl)
              exact ⟨cellAt i0 0 rfl, cellAt i0 1 rfl, cellAt i0 2 rfl, cellAt i0 3 rfl, cellAt i0 4 rfl⟩
            have Cb18_27_3 : Hid (∀ W (Q : List Res), Sep w (Q ++ b18_27) W → W.cell? ⟨qe162, 0, none⟩ = some (.string typeError) ∧ W.cell? ⟨qe162, 1, none⟩ = some (.int .i64 0) ∧ W.cell? ⟨qe162, 2, none⟩ = some (.int .i64 0) ∧ W.cell? ⟨qe162, 3, none⟩ = some (.string ⟨#[]⟩) ∧ W.cell? ⟨qe162, 4, none⟩ = some (.bool false)) := Lib.hid fun W Q T => by
              rw [hb18_27] at T
              have i0 := T.box (b := qe162) (o := objN typeError) (Q.length + 1) (by rw [List.getElem?_append_right (by omega), Nat.add_sub_cancel_left]; rfl)
              exact ⟨cellAt i0 0 rfl, cellAt i0 1 rfl, cellAt i0 2 rfl, cellAt i0 3 rfl, cellAt i0 4 rfl⟩
            have Cb18_27_4 : Hid (∀ W (Q : List Res), Sep w (Q ++ b18_27) W → W.cell? ⟨qq1_10, 0, none⟩ = some (.string ⟨#[]⟩) ∧ W.cell? ⟨qq1_10, 1, none⟩ = some (.int .i64 0) ∧ W.cell? ⟨qq1_10, 2, none⟩ = some (.int .i64 0) ∧ W.cell? ⟨qq1_10, 3, none⟩ = some (.string ⟨#[]⟩) ∧ W.cell? ⟨qq1_10, 4, none⟩ = some (.bool false)) := Lib.hid fun W Q T => by
              rw [hb18_27] at T
              have i0 := T.box (b := qq1_10) (o := objE) (Q.length + 12) (by rw [List.getElem?_append_right (by omega), Nat.add_sub_cancel_left]; rfl)
              exact ⟨cellAt i0 0 rfl, cellAt i0 1 rfl, cellAt i0 2 rfl, cellAt i0 3 rfl, cellAt i0 4 rfl⟩
            have Cb18_27_5 : Hid (∀ W (Q : List Res), Sep w (Q ++ b18_27) W → W.cell? ⟨qq1_12, 0, none⟩ = some (.string ⟨#[]⟩) ∧ W.cell? ⟨qq1_12, 1, none⟩ = some (.int .i64 0) ∧ W.cell? ⟨qq1_12, 2, none⟩ = some (.int .i64 0) ∧ W.cell? ⟨qq1_12, 3, none⟩ = some (.string ⟨#[]⟩) ∧ W.cell? ⟨qq1_12, 4, none⟩ = some (.bool false)) := Lib.hid fun W Q T => by
              rw [hb18_27] at T
              have i0 := T.box (b := qq1_12) (o := objE) (Q.length + 7) (by rw [List.getElem?_append_right (by omega), Nat.add_sub_cancel_left]; rfl)
              exact ⟨cellAt i0 0 rfl, cellAt i0 1 rfl, cellAt i0 2 rfl, cellAt i0 3 rfl, cellAt i0 4 rfl⟩
            have Cb18_27_6 : Hid (∀ W (Q : List Res), Sep w (Q ++ b18_27) W → W.cell? ⟨qq1_15, 0, none⟩ = some (.string typeError) ∧ W.cell? ⟨qq1_15, 1, none⟩ = some (.int .i64 0) ∧ W.cell? ⟨qq1_15, 2, none⟩ = some (.int .i64 0) ∧ W.cell? ⟨qq1_15, 3, none⟩ = some (.string ⟨#[]⟩) ∧ W.cell? ⟨qq1_15, 4, none⟩ = some (.bool false)) := Lib.hid fun W Q T => by
              rw [hb18_27] at T
              have i0 := T.box (b := qq1_15) (o := objN typeError) (Q.length + 3) (by rw [List.getElem?_append_right (by omega), Nat.add_sub_cancel_left]; rfl)
              exact ⟨cellAt i0 0 rfl, cellAt i0 1 rfl, cellAt i0 2 rfl, cellAt i0 3 rfl, cellAt i0 4 rfl⟩
            have Cb18_27_7 : Hid (∀ W (Q : List Res), Sep w (Q ++ b18_27) W → W.cell? ⟨qq1_9, 0, none⟩ = some (.string ⟨#[]⟩) ∧ W.cell? ⟨qq1_9, 1, none⟩ = some (.int .i64 0) ∧ W.cell? ⟨qq1_9, 2, none⟩ = some (.int .i64 0) ∧ W.cell? ⟨qq1_9, 3, none⟩ = some (.string ⟨#[]⟩) ∧ W.cell? ⟨qq1_9, 4, none⟩ = some (.bool false)) := Lib.hid fun W Q T => by
              rw [hb18_27] at T
              have i0 := T.box (b := qq1_9) (o := objE) (Q.length + 14) (by rw [List.getElem?_append_right (by omega), Nat.add_sub_cancel_left]; rfl)
              exact ⟨cellAt i0 0 rfl, cellAt i0 1 rfl, cellAt i0 2 rfl, cellAt i0 3 rfl, cellAt i0 4 rfl⟩
            have K18_1 : Hid (∀ W (Q : List Res), Sep w (Q ++ b18_27) W → Calls Tryz.prog 19 #[excZ] W fun e W' => e = .returned (.bool true) ∧ Sep w (Q ++ b18_27) W') := Lib.hid fun W Q T => by
              exact (none_z W).mono fun e W' ⟨e1, e2⟩ => ⟨e1, T.later e2⟩
            have K18_4 : Hid (∀ W (Q : List Res), Sep w (Q ++ b18_27) W → Calls Tryz.prog 19 #[excZ] W fun e W' => e = .returned (.bool true) ∧ Sep w (Q ++ b18_27) W') := Lib.hid fun W Q T => by
              exact (none_z W).mono fun e W' ⟨e1, e2⟩ => ⟨e1, T.later e2⟩
            have K18_8 : Hid (∀ W (Q : List Res), Sep w (Q ++ b18_27) W → Calls Tryz.prog 19 #[excZ] W fun e W' => e = .returned (.bool true) ∧ Sep w (Q ++ b18_27) W') := Lib.hid fun W Q T => by
              exact (none_z W).mono fun e W' ⟨e1, e2⟩ => ⟨e1, T.later e2⟩
            have K18_12 : Hid (∀ W (Q : List Res), Sep w (Q ++ b18_27) W → Calls Tryz.prog 19 #[excZ] W fun e W' => e = .returned (.bool true) ∧ Sep w (Q ++ b18_27) W') := Lib.hid fun W Q T => by
              exact (none_z W).mono fun e W' ⟨e1, e2⟩ => ⟨e1, T.later e2⟩
            have K18_16 : Hid (∀ W (Q : List Res), Sep w (Q ++ b18_27) W → Calls Tryz.prog 19 #[excZ] W fun e W' => e = .returned (.bool true) ∧ Sep w (Q ++ b18_27) W') := Lib.hid fun W Q T => by
              exact (none_z W).mono fun e W' ⟨e1, e2⟩ => ⟨e1, T.later e2⟩
            have K18_20 : Hid (∀ W (Q : List Res), Sep w (Q ++ b18_27) W → Calls Tryz.prog 19 #[excZ] W fun e W' => e = .returned (.bool true) ∧ Sep w (Q ++ b18_27) W') := Lib.hid fun W Q T => by
              exact (none_z W).mono fun e W' ⟨e1, e2⟩ => ⟨e1, T.later e2⟩
            have K18_33 : Hid (∀ W (Q : List Res), Sep w (Q ++ b18_27) W → Calls Tryz.prog 21 #[excN typeError, .string typeError] W fun e W' => e = .returned (.bool true) ∧ Sep w (Q ++ b18_27) W') := Lib.hid fun W Q T => by
              exact (raised_type W).mono fun e W' ⟨e1, e2⟩ => ⟨e1, T.later e2⟩
            have K18_37 : Hid (∀ W (Q : List Res), Sep w (Q ++ b18_27) W → Calls Tryz.prog 21 #[excN typeError, .string typeError] W fun e W' => e = .returned (.bool true) ∧ Sep w (Q ++ b18_27) W') := Lib.hid fun W Q T => by
              exact (raised_type W).mono fun e W' ⟨e1, e2⟩ => ⟨e1, T.later e2⟩
            replace S := Lib.hid S
            clear hb18_27
            go_upto_region 18 with fail
            have S1 : Sep w ([] ++ b18_27) (w27) := by rw [Hb18_27.out]; exact S.out
            clear S
            refine regionL (E := []) (base := b18_27) S1 ?_
            clear S1
            refine quietL (hy := fun E Wx hSw => by ((refine and5 (Cb18_27_7.out _ _ hSw) fun u0 u1 u2 u3 u4 => ?_); go_simp; exact ⟨rfl, hSw⟩)) (h := ?_)
            simp only [Act.put, pa]; try dsimp only [List.set]
            refine quietL (hy := fun E Wx hSw => by (go_simp; exact symCall (K18_1.out _ _ hSw))) (h := ?_)
            simp only [Act.put, pa]; try dsimp only [List.set]
            refine quietL ?_
            simp only [Act.put, pa]; try dsimp only [List.set]
            refine quietL (hy := fun E Wx hSw => by ((refine and5 (Cb18_27_4.out _ _ hSw) fun u0 u1 u2 u3 u4 => ?_); go_simp; exact ⟨rfl, hSw⟩)) (h := ?_)
            simp only [Act.put, pa]; try dsimp only [List.set]
            refine quietL (hy := fun E Wx hSw => by (go_simp; exact symCall (K18_4.out _ _ hSw))) (h := ?_)
            simp only [Act.put, pa]; try dsimp only [List.set]
            iterate 2 (refine quietL ?_; simp only [Act.put, pa]; try dsimp only [List.set])
            refine quietL (hy := fun E Wx hSw => by ((refine and5 (Cb18_27_0.out _ _ hSw) fun u0 u1 u2 u3 u4 => ?_); go_simp; exact ⟨rfl, hSw⟩)) (h := ?_)
            simp only [Act.put, pa]; try dsimp only [List.set]
            refine quietL (hy := fun E Wx hSw => by (go_simp; exact symCall (K18_8.out _ _ hSw))) (h := ?_)
            simp only [Act.put, pa]; try dsimp only [List.set]
            iterate 2 (refine quietL ?_; simp only [Act.put, pa]; try dsimp only [List.set])
            refine quietL (hy := fun E Wx hSw => by ((refine and5 (Cb18_27_5.out _ _ hSw) fun u0 u1 u2 u3 u4 => ?_); go_simp; exact ⟨rfl, hSw⟩)) (h := ?_)
            simp only [Act.put, pa]; try dsimp only [List.set]
            refine quietL (hy := fun E Wx hSw => by (go_simp; exact symCall (K18_12.out _ _ hSw))) (h := ?_)
            simp only [Act.put, pa]; try dsimp only [List.set]
            iterate 2 (refine quietL ?_; simp only [Act.put, pa]; try dsimp only [List.set])
            refine quietL (hy := fun E Wx hSw => by ((refine and5 (Cb18_27_1.out _ _ hSw) fun u0 u1 u2 u3 u4 => ?_); go_simp; exact ⟨rfl, hSw⟩)) (h := ?_)
            simp only [Act.put, pa]; try dsimp only [List.set]
            refine quietL (hy := fun E Wx hSw => by (go_simp; exact symCall (K18_16.out _ _ hSw))) (h := ?_)
            simp only [Act.put, pa]; try dsimp only [List.set]
            iterate 2 (refine quietL ?_; simp only [Act.put, pa]; try dsimp only [List.set])
            refine quietL (hy := fun E Wx hSw => by ((refine and5 (Cb18_27_2.out _ _ hSw) fun u0 u1 u2 u3 u4 => ?_); go_simp; exact ⟨rfl, hSw⟩)) (h := ?_)
            simp only [Act.put, pa]; try dsimp only [List.set]
            refine quietL (hy := fun E Wx hSw => by (go_simp; exact symCall (K18_20.out _ _ hSw))) (h := ?_)
            simp only [Act.put, pa]; try dsimp only [List.set]
            iterate 11 (refine quietL ?_; simp only [Act.put, pa]; try dsimp only [List.set])
            refine quietL (hy := fun E Wx hSw => by ((refine and5 (Cb18_27_6.out _ _ hSw) fun u0 u1 u2 u3 u4 => ?_); go_simp; exact ⟨rfl, hSw⟩)) (h := ?_)
            simp only [Act.put, pa]; try dsimp only [List.set]
            refine quietL (hy := fun E Wx hSw => by (go_simp; exact symCall (K18_33.out _ _ hSw))) (h := ?_)
            simp only [Act.put, pa]; try dsimp only [List.set]
            iterate 2 (refine quietL ?_; simp only [Act.put, pa]; try dsimp only [List.set])
            refine quietL (hy := fun E Wx hSw => by ((refine and5 (Cb18_27_3.out _ _ hSw) fun u0 u1 u2 u3 u4 => ?_); go_simp; exact ⟨rfl, hSw⟩)) (h := ?_)
            simp only [Act.put, pa]; try dsimp only [List.set]
            refine quietL (hy := fun E Wx hSw => by (go_simp; exact symCall (K18_37.out _ _ hSw))) (h := ?_)
            simp only [Act.put, pa]; try dsimp only [List.set]
            iterate 2 (refine quietL ?_; simp only [Act.put, pa]; try dsimp only [List.set])
            refine doneL (h := fun w29 S => ?_)
            replace S : Sep w (boxZ qa161 :: boxN qe162 typeError :: boxZ qq0_15 :: boxN qq1_15 typeError :: boxE qe141 :: boxE qe131 :: boxW qq0_12 4 5 ⟨#[]⟩ :: boxE qq1_12 :: heapR h (HX [rowO kd hok P, rowO kd hok (P.take p), rowO kd hok (P.drop p), rowO kd hok P, rowO kd hok (P)]) :: boxW qa112 4 4 ⟨#[]⟩ :: boxE qe113 :: boxW qq0_10 4 3 ⟨#[]⟩ :: boxE qq1_10 :: boxW qq0_9 4 2 ⟨#[]⟩ :: boxE qq1_9 :: boxW qv1 4 1 ⟨#[]⟩ :: []) w29 := by rw [Hb18_27.out] at S; exact S
            clear Hb18_27 Kb18_27 K18_1 K18_4 K18_8 K18_12 K18_16 K18_20 K18_33 K18_37 Cb18_27_0 Cb18_27_1 Cb18_27_2 Cb18_27_3 Cb18_27_4 Cb18_27_5 Cb18_27_6 Cb18_27_7
            replace S := Lib.hid S.below
            go_wp2
            go_ret
            exact ⟨rfl, S.out⟩
set_option maxRecDepth 100000 in
theorem walk (w : World) (sa : Value) (l : List V) (hs : SeesV w sa l) (s : ByteArray) (hs0 : s.size ≤ maxLen) (at_ : Int) (hat : okI at_) :
    Calls Tryz.prog 6 #[sa, .string s, .int .i64 at_] w fun e W' => e = .returned (.bool true) ∧ Below w.heap.size w W' := by
  have K : ∀ W, Below w.heap.size w W → SeesV W sa l := fun W hb => seesV_below hs hb
  have M0 := Lib.hid (walk0 w s hs0 at_ hat sa l hs)
  go_enter Tryz.func6, Tryz.ntmps6
  go_wp2_with fail
  refine M0.out.mono ?_
  rintro e w1 ⟨rfl, b1⟩
  have M1 := Lib.hid (walk1 w1 s hs0 at_ hat sa l (K _ b1) 1 false (.inl ⟨rfl, rfl⟩))
  clear M0
  go_wp2_with fail
  refine M1.out.mono ?_
  rintro e w2 ⟨rfl, b2⟩
  have B2 := b1.trans (b2.mono b1.size)
  have M2 := Lib.hid (walk1 w2 s hs0 at_ hat sa l (K _ B2) 2 true (.inr ⟨rfl, rfl⟩))
  clear M1
  go_wp2_with fail
  refine M2.out.mono ?_
  rintro e w3 ⟨rfl, b3⟩
  have B3 := B2.trans (b3.mono B2.size)
  clear M2
  go_wp2
  go_ret
  exact ⟨rfl, B3⟩
set_option maxRecDepth 100000 in
theorem lifted (os : Os) (started : os.Started) (H : Type) (enc : TypeId × Value → H) :
    ReturnsInHanded {} Tryz.checked os 6 .any (Rows.operateSlicesSpec.pre6 enc Tryz.prog Tryz.f6 Rows.operateSlicesRow.domain false) (Rows.operateSlicesSpec.post enc Tryz.prog Tryz.f6 false true false false) := by
  refine law_lift (C := Tryz.checked) own started (by kernel_rfl) Tryz.func6
    (ChangeSpec.witness6 (enc := enc) (C := Tryz.checked) false ⟨#[], #[.slice none 0 0, .string ⟨#[]⟩, .int .i64 0], []⟩ 8 (by kernel_rfl) (by kernel_rfl) (by kernel_rfl) (by kernel_rfl))
    (by kernel_rfl) (by kernel_rfl) rfl (fun ds h => by
      match ds, h with
      | [d1, d2, d3], _ => exact ⟨rfl, rfl, rfl⟩) rfl Tryz.underlying4 ?_
  intro W base args ds ps hval hA hlt hwt hsh
  rw [Tryz.params6] at hA hval
  obtain ⟨v0, vs0, d0, ds0, p0, q0, hargs, rfl, rfl, h0, r0⟩ := trodAll_cons hA
  obtain ⟨v1, vs1, d1, ds1, p1, q1, rfl, rfl, rfl, h1, r1⟩ := trodAll_cons r0
  obtain ⟨v2, vs2, d2, ds2, p2, q2, rfl, rfl, rfl, h2, r2⟩ := trodAll_cons r1
  obtain ⟨rfl, rfl, rfl⟩ := trodAll_nil r2
  obtain rfl : args = #[v0, v1, v2] := by cases args; simp_all
  obtain ⟨x0, len0, cap0, rfl⟩ := okWide_slice Tryz.underlying22 (hval 0 22 v0 rfl rfl)
  obtain ⟨fuel0, hf0⟩ := h0
  obtain ⟨l0, s0, g0⟩ := open_vals (v := .slice x0 len0 cap0) hf0
  obtain ⟨a1, rfl, rfl, rfl, w1⟩ := open_string Tryz.underlying9 (hval 1 9 v1 rfl rfl) h1
  obtain ⟨a2, rfl, rfl, rfl, w2⟩ := open_int Tryz.underlying2 (hval 2 2 v2 rfl rfl) h2
  -- WALK
  exact walk W _ l0 s0 a1 w1 a2 w2
theorem proved : Rows.OperateSlicesSaid :=
  OpenClaim.holds_of_wide 6 Tryz.f6 rfl rfl rfl rfl rfl rfl rfl ⟨rfl, rfl, rfl, rfl, rfl⟩ rfl rfl rfl rfl rfl (by kernel_rfl) Tryz.func6 (by kernel_rfl)
    (of_decide_eq_true (by kernel_rfl)) (by unfold Func.isWrapper; first | (rw [if_pos (by decide +kernel)]; kernel_rfl) | (rw [if_neg (by decide +kernel)]; exact ⟨rfl, rfl⟩))
    (fun os started H enc _ => lifted os started H enc)
#print axioms proved
end Go.Proofs.YtellmfimmghidaaGreat.operateSlices
