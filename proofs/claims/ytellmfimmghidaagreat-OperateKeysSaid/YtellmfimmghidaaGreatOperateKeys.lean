/-
  OperateKeys: for any keys and any value, the law returns true: what is stored into a dict is there, what is taken out is not. No condition.
-/
import Derived.Test.YtellmfimmghidaaGreatShownP
import Derived.Test.YtellmfimmghidaaGreatFrame
import Derived.Test.YtellmfimmghidaaGreatKeyF
namespace Go.Proofs.YtellmfimmghidaaGreat.operateKeys
set_option linter.unusedSimpArgs false
open Go.ChangeShapes Go.WideShapes Go.ChangeAt Go.RowKit
open Go.ChangeMaps (open_string)
set_option linter.unusedVariables false
def n1 : V := vI 1 (by decide)
def n2 : V := vI 2 (by decide)
set_option maxRecDepth 100000 in
set_option maxHeartbeats 12800000 in
theorem walk (w : World) (sl : Value) (l : List V) (hs : SeesV w sl l) (x : V) :
    Calls Tryz.prog 12 #[sl, .agg #[.int .i64 x.kind, .int .i64 x.n, .string x.s]] w fun e W' => e = .returned (.bool true) ∧ Below w.heap.size w W' := by
  obtain ⟨a0, c0, rfl, q1, q2, q3⟩ := hs
  have HQ := Lib.hid q3
  have hll : (l.length : Int) ≤ 9223372036854775807 := by unfold maxLen at q2; omega
  clear q1 q2 q3
  have S := Sep.start (Below.refl w.heap.size w)
  obtain ⟨q3, hq3⟩ : ∃ gx_, (w.heap.size) = gx_ := ⟨_, rfl⟩
  replace S := S.alloc (.cells #[.int .i64 x.kind, .int .i64 x.n, .string x.s] 29)
  rw [hq3] at S ⊢
  have M0 := Lib.hid (shown_ok S)
  clear S
  go_enter Tryz.func12, Tryz.ntmps12
  go_upto_region 1 with fail
  try simp only [hq3]
  have HQ3 := Lib.hid hq3
  clear hq3
  go_wp2_with fail
  refine M0.out.mono ?_
  rintro e w1 ⟨rfl, S⟩
  clear M0
  have M := Lib.hid S.new
  clear S
  go_wp2_with fail
  refine M.out.mono ?_
  rintro e w2 ⟨h, rfl, S, -⟩
  clear M
  replace S : Sep w (heapR h ⟨[], 0⟩ :: boxV q3 x :: []) _ := S
  replace S : Sep w (heapR h ⟨[], 0⟩ :: boxV q3 x :: []) (w2) := by
    refine (show Sep w ([heapR h ⟨[], 0⟩, boxV q3 x] ++ []) _ from S).perm ?_
    exact List.Perm.append_right [] (perm_of (l := [heapR h ⟨[], 0⟩, boxV q3 x]) [0, 1] (by show (List.range' 0 2).Perm [0, 1]; decide) (by rfl))
  refine named (boxV q3 x :: []) fun b5_2 hb5_2 => ?_
  have Hb5_2 := Lib.hid hb5_2
  have Kb5_2 : Hid (∀ W (Q : List Res), Sep w (Q ++ b5_2) W → True) := Lib.hid fun W Q T => by
    rw [hb5_2] at T
    trivial
  replace S := Lib.hid S
  clear hb5_2
  go_upto_region 5 with fail
  have S1 : Sep w ([heapR h ⟨[], 0⟩] ++ b5_2) (w2) := by rw [Hb5_2.out]; exact S.out
  clear S
  refine regionL (E := [emptyR, heapR h ⟨[], 0⟩]) (base := b5_2) (Sep.putE S1) ?_
  clear S1
  refine quietL ?_
  simp only [Act.put, pa]; try dsimp only [List.set]
  refine detL (.agg #[.int .i64 4, .int .i64 1, .string ⟨#[]⟩]) [emptyR, heapR h (HD [])] (h1 := fun Wx hSw => by (go_simp; refine symCall ?_; exact hSw.make 1 rfl good_empty (by omega) (dO []) (.slice none 0 0) (seesV_none _) (by simp [dO]) rfl (by decide) (by decide))) (h2 := ?_)
  simp only [Act.put, pa]; try dsimp only [List.set]
  refine allocL 0 rfl (fun q => .pointer (some ⟨q, 0, none⟩)) (.cells #[.int .i64 0, .int .i64 0, .string ⟨#[]⟩] 29) (h1 := fun Wx => by go_simp) (h2 := fun qD2 => ?_)
  simp only [Act.put, pa]; try dsimp only [List.set]
  try simp only [List.set_cons_zero, List.set_cons_succ]
  refine detL undef [boxW qD2 4 1 ⟨#[]⟩, heapR h (HD [])] (h1 := fun Wx hSw => by (have hz := hSw.box (b := qD2) (o := objZ) 0 rfl; refine useZ3 hz fun z0 z1 z2 y0 y1 y2 => ?_; go_simp; exact ⟨rfl, hSw.set3 0 rfl (.int .i64 4) (.int .i64 1) (.string ⟨#[]⟩)⟩)) (h2 := ?_)
  simp only [Act.put, pa]; try dsimp only [List.set]
  intro w4 S
  replace S : Sep w (boxW qD2 4 1 ⟨#[]⟩ :: heapR h (HD []) :: boxV q3 x :: []) w4 := by rw [Hb5_2.out] at S; exact S
  clear Hb5_2 Kb5_2
  replace S : Sep w ([heapR h (HD []), boxW qD2 4 1 ⟨#[]⟩, boxV q3 x] ++ []) (w4) := by
    refine (show Sep w ([boxW qD2 4 1 ⟨#[]⟩, heapR h (HD []), boxV q3 x] ++ []) _ from S).perm ?_
    exact List.Perm.append_right [] (perm_of (l := [boxW qD2 4 1 ⟨#[]⟩, heapR h (HD []), boxV q3 x]) [1, 0, 2] (by show (List.range' 0 3).Perm [1, 0, 2]; decide) (by rfl))
  replace S := Lib.hid S
  go_wp2
  go_loopw [8] (fun s8 wr => ∃ (k : Nat) (L : List (V × V)), k ≤ l.length ∧ k ≤ 20 ∧ s8 = .int .i64 k ∧ L.length ≤ k ∧ Sep w (heapR h (HD L) :: boxW qD2 4 1 ⟨#[]⟩ :: boxV q3 x :: []) wr) (fun s8 _ => 20 - (intOf s8).toNat)
  case atStart => exact ⟨0, [], by omega, by omega, rfl, by simp, S.out⟩
  case round =>
    obtain ⟨k, L, hkl, hk8, rfl, hL, S⟩ := hrel
    have HL := Lib.hid hL
    have HKL := Lib.hid hkl
    have HK8 := Lib.hid hk8
    by_cases hlt : k < l.length ∧ k < 20
    · obtain ⟨h1, h2⟩ := hlt
      have hc1 : (k : Int) < l.length := by omega
      have hc2 : (k : Int) < 20 := by omega
      obtain ⟨v, hx⟩ : ∃ v, l[k]? = some v := ⟨l[k], by simp [h1]⟩
      obtain ⟨g, og, rfl, hc⟩ : ∃ g og, a0 = some ⟨g, og, none⟩ ∧ ∀ i v, l[i]? = some v → w.cell? ⟨g, og + i * 3, none⟩ = some (.int .i64 v.kind) ∧ w.cell? ⟨g, og + i * 3 + 1, none⟩ = some (.int .i64 v.n) ∧ w.cell? ⟨g, og + i * 3 + 2, none⟩ = some (.string v.s) := by
        rcases HQ.out with h | h
        · subst h; simp at hx
        · exact h
      have CX : Hid (∀ W (Q : List Res), Sep w Q W → W.cell? ⟨g, og + k * 3, none⟩ = some (.int .i64 v.kind) ∧ W.cell? ⟨g, og + k * 3 + 1, none⟩ = some (.int .i64 v.n) ∧ W.cell? ⟨g, og + k * 3 + 2, none⟩ = some (.string v.s)) := Lib.hid fun W Q T => by
        obtain ⟨c1, c2, c3⟩ := hc k v hx
        exact ⟨cellBelow c1 T.below, cellBelow c2 T.below, cellBelow c3 T.below⟩
      obtain ⟨kk, hkk, kc⟩ := lkey_ok v
      have HKK := Lib.hid hkk
      have KC := Lib.hid kc
      clear hc hx hkk kc hL hkl hk8
      have HLB : Hid (L.length ≤ 100) := Lib.hid (by have := HL.out; have := HK8.out; omega)
      clear h1 h2
      refine named (heapR h (HD L) :: boxW qD2 4 1 ⟨#[]⟩ :: boxV q3 x :: []) fun b9_4 hb9_4 => ?_
      have Hb9_4 := Lib.hid hb9_4
      have Kb9_4 : Hid (∀ W (Q : List Res), Sep w (Q ++ b9_4) W → True) := Lib.hid fun W Q T => by
        rw [hb9_4] at T
        trivial
      have K9_4 : Hid (∀ W (Q : List Res), Sep w (Q ++ b9_4) W → Calls Tryz.prog 42 #[.agg #[.int .i64 v.kind, .int .i64 v.n, .string v.s]] W fun e W' => e = .returned (.agg #[.int .i64 kk.kind, .int .i64 kk.n, .string kk.s]) ∧ Sep w (Q ++ b9_4) W') := Lib.hid fun W Q T => by
        rw [Hb9_4.out] at T ⊢
        exact KC.out _ _ _ T
      replace S := Lib.hid S
      clear hb9_4
      go_upto_region 9 with fail
      have S1 : Sep w ([] ++ b9_4) (wr) := by rw [Hb9_4.out]; exact S.out
      clear S
      refine regionL (E := [emptyR]) (base := b9_4) (Sep.putE S1) ?_
      clear S1
      iterate 3 (refine quietL ?_; simp only [Act.put, pa]; try dsimp only [List.set])
      refine quietL (hy := fun E Wx hSw => by ((refine and3 (CX.out _ _ hSw) fun u0 u1 u2 => ?_); go_simp; exact ⟨rfl, hSw⟩)) (h := ?_)
      simp only [Act.put, pa]; try dsimp only [List.set]
      refine quietL (hy := fun E Wx hSw => by (go_simp; exact symCall (K9_4.out _ _ hSw))) (h := ?_)
      simp only [Act.put, pa]; try dsimp only [List.set]
      refine allocL 0 rfl (fun q => .pointer (some ⟨q, 0, none⟩)) (.cells #[.int .i64 0, .int .i64 0, .string ⟨#[]⟩] 29) (h1 := fun Wx => by go_simp) (h2 := fun qB1 => ?_)
      simp only [Act.put, pa]; try dsimp only [List.set]
      try simp only [List.set_cons_zero, List.set_cons_succ]
      refine detL undef [boxV qB1 kk] (h1 := fun Wx hSw => by (have hz := hSw.box (b := qB1) (o := objZ) 0 rfl; refine useZ3 hz fun z0 z1 z2 y0 y1 y2 => ?_; go_simp; exact ⟨rfl, hSw.set3 0 rfl (.int .i64 kk.kind) (.int .i64 kk.n) (.string kk.s)⟩)) (h2 := ?_)
      simp only [Act.put, pa]; try dsimp only [List.set]
      intro w6 S
      replace S : Sep w (boxV qB1 kk :: heapR h (HD L) :: boxW qD2 4 1 ⟨#[]⟩ :: boxV q3 x :: []) w6 := by rw [Hb9_4.out] at S; exact S
      clear Hb9_4 Kb9_4 K9_4
      cases hg : getL L kk with
      | none => as_aux_lemma =>
        have HG := Lib.hid hg
        clear hg
        refine named (boxV qB1 kk :: heapR h (HD L) :: boxW qD2 4 1 ⟨#[]⟩ :: boxV q3 x :: []) fun b10_6 hb10_6 => ?_
        have Hb10_6 := Lib.hid hb10_6
        have Kb10_6 : Hid (∀ W (Q : List Res), Sep w (Q ++ b10_6) W → True) := Lib.hid fun W Q T => by
          rw [hb10_6] at T
          trivial
        have Cb10_6_0 : Hid (∀ W (Q : List Res), Sep w (Q ++ b10_6) W → W.cell? ⟨qB1, 0, none⟩ = some (.int .i64 kk.kind) ∧ W.cell? ⟨qB1, 1, none⟩ = some (.int .i64 kk.n) ∧ W.cell? ⟨qB1, 2, none⟩ = some (.string kk.s)) := Lib.hid fun W Q T => by
          rw [hb10_6] at T
          have i0 := T.box (b := qB1) (o := objV kk) (Q.length + 0) (by rw [List.getElem?_append_right (by omega), Nat.add_sub_cancel_left]; rfl)
          exact ⟨cellAt i0 0 rfl, cellAt i0 1 rfl, cellAt i0 2 rfl⟩
        have Cb10_6_1 : Hid (∀ W (Q : List Res), Sep w (Q ++ b10_6) W → W.cell? ⟨qD2, 0, none⟩ = some (.int .i64 4) ∧ W.cell? ⟨qD2, 1, none⟩ = some (.int .i64 1) ∧ W.cell? ⟨qD2, 2, none⟩ = some (.string ⟨#[]⟩)) := Lib.hid fun W Q T => by
          rw [hb10_6] at T
          have i0 := T.box (b := qD2) (o := objW 4 1 ⟨#[]⟩) (Q.length + 2) (by rw [List.getElem?_append_right (by omega), Nat.add_sub_cancel_left]; rfl)
          exact ⟨cellAt i0 0 rfl, cellAt i0 1 rfl, cellAt i0 2 rfl⟩
        have K10_3 : Hid (∀ W (Q : List Res), Sep w (Q ++ b10_6) W → Calls Tryz.prog 43 #[.pointer (some ⟨h, 0, none⟩), .agg #[.int .i64 4, .int .i64 1, .string ⟨#[]⟩], .agg #[.int .i64 kk.kind, .int .i64 kk.n, .string kk.s]] W fun e W' => e = .returned (.tuple #[.agg #[.int .i64 0, .int .i64 0, .string ⟨#[]⟩], .bool false]) ∧ Sep w (Q ++ b10_6) W') := Lib.hid fun W Q T => by
          rw [Hb10_6.out] at T ⊢
          exact d_get_no T (Q.length + 1) (by rw [List.getElem?_append_right (by omega), Nat.add_sub_cancel_left]; rfl) kk HG.out
        replace S := Lib.hid S
        clear hb10_6
        go_upto_region 10 with fail
        have S1 : Sep w ([] ++ b10_6) (w6) := by rw [Hb10_6.out]; exact S.out
        clear S
        refine regionL (E := [emptyR]) (base := b10_6) (Sep.putE S1) ?_
        clear S1
        refine quietL ?_
        simp only [Act.put, pa]; try dsimp only [List.set]
        refine quietL (hy := fun E Wx hSw => by ((refine and3 (Cb10_6_1.out _ _ hSw) fun u0 u1 u2 => ?_); go_simp; exact ⟨rfl, hSw⟩)) (h := ?_)
        simp only [Act.put, pa]; try dsimp only [List.set]
        refine quietL (hy := fun E Wx hSw => by ((refine and3 (Cb10_6_0.out _ _ hSw) fun u0 u1 u2 => ?_); go_simp; exact ⟨rfl, hSw⟩)) (h := ?_)
        simp only [Act.put, pa]; try dsimp only [List.set]
        refine quietL (hy := fun E Wx hSw => by (go_simp; exact symCall (K10_3.out _ _ hSw))) (h := ?_)
        simp only [Act.put, pa]; try dsimp only [List.set]
        iterate 3 (refine quietL ?_; simp only [Act.put, pa]; try dsimp only [List.set])
        refine allocL 0 rfl (fun q => .pointer (some ⟨q, 0, none⟩)) (.cells #[.int .i64 0, .int .i64 0, .string ⟨#[]⟩] 29) (h1 := fun Wx => by go_simp) (h2 := fun qa101 => ?_)
        simp only [Act.put, pa]; try dsimp only [List.set]
        try simp only [List.set_cons_zero, List.set_cons_succ]
        refine detL undef [boxZ qa101] (h1 := fun Wx hSw => by (have hz := hSw.box (b := qa101) (o := objZ) 0 rfl; refine useZ3 hz fun z0 z1 z2 y0 y1 y2 => ?_; go_simp; exact ⟨rfl, hSw.set3 0 rfl (.int .i64 0) (.int .i64 0) (.string ⟨#[]⟩)⟩)) (h2 := ?_)
        simp only [Act.put, pa]; try dsimp only [List.set]
        refine quietL ?_
        simp only [Act.put, pa]; try dsimp only [List.set]
        intro w8 S
        replace S : Sep w (boxZ qa101 :: boxV qB1 kk :: heapR h (HD L) :: boxW qD2 4 1 ⟨#[]⟩ :: boxV q3 x :: []) w8 := by rw [Hb10_6.out] at S; exact S
        clear Hb10_6 Kb10_6 K10_3 Cb10_6_0 Cb10_6_1
        refine named (boxZ qa101 :: boxV qB1 kk :: heapR h (HD L) :: boxW qD2 4 1 ⟨#[]⟩ :: boxV q3 x :: []) fun b11_8 hb11_8 => ?_
        have Hb11_8 := Lib.hid hb11_8
        have Kb11_8 : Hid (∀ W (Q : List Res), Sep w (Q ++ b11_8) W → True) := Lib.hid fun W Q T => by
          rw [hb11_8] at T
          trivial
        have Cb11_8_0 : Hid (∀ W (Q : List Res), Sep w (Q ++ b11_8) W → W.cell? ⟨qB1, 0, none⟩ = some (.int .i64 kk.kind) ∧ W.cell? ⟨qB1, 1, none⟩ = some (.int .i64 kk.n) ∧ W.cell? ⟨qB1, 2, none⟩ = some (.string kk.s)) := Lib.hid fun W Q T => by
          rw [hb11_8] at T
          have i0 := T.box (b := qB1) (o := objV kk) (Q.length + 1) (by rw [List.getElem?_append_right (by omega), Nat.add_sub_cancel_left]; rfl)
          exact ⟨cellAt i0 0 rfl, cellAt i0 1 rfl, cellAt i0 2 rfl⟩
        have Cb11_8_1 : Hid (∀ W (Q : List Res), Sep w (Q ++ b11_8) W → W.cell? ⟨qD2, 0, none⟩ = some (.int .i64 4) ∧ W.cell? ⟨qD2, 1, none⟩ = some (.int .i64 1) ∧ W.cell? ⟨qD2, 2, none⟩ = some (.string ⟨#[]⟩)) := Lib.hid fun W Q T => by
          rw [hb11_8] at T
          have i0 := T.box (b := qD2) (o := objW 4 1 ⟨#[]⟩) (Q.length + 3) (by rw [List.getElem?_append_right (by omega), Nat.add_sub_cancel_left]; rfl)
          exact ⟨cellAt i0 0 rfl, cellAt i0 1 rfl, cellAt i0 2 rfl⟩
        have K11_3 : Hid (∀ W (Q : List Res), Sep w (Q ++ b11_8) W → Calls Tryz.prog 18 #[.pointer (some ⟨h, 0, none⟩), .string ⟨#[105, 110]⟩, .agg #[.int .i64 kk.kind, .int .i64 kk.n, .string kk.s], .agg #[.int .i64 4, .int .i64 1, .string ⟨#[]⟩]] W fun e W' => e = .returned (.tuple #[.agg #[.int .i64 1, .int .i64 0, .string ⟨#[]⟩], excZ]) ∧ Sep w (Q ++ b11_8) W') := Lib.hid fun W Q T => by
          rw [Hb11_8.out] at T ⊢
          exact d_in_no T (Q.length + 2) (by rw [List.getElem?_append_right (by omega), Nat.add_sub_cancel_left]; rfl) kk HKK.out HG.out
        replace S := Lib.hid S
        clear hb11_8
        go_upto_region 11 with fail
        have S1 : Sep w ([] ++ b11_8) (w8) := by rw [Hb11_8.out]; exact S.out
        clear S
        refine regionL (E := [emptyR, emptyR]) (base := b11_8) (Sep.putE (Sep.putE S1)) ?_
        clear S1
        refine quietL ?_
        simp only [Act.put, pa]; try dsimp only [List.set]
        refine quietL (hy := fun E Wx hSw => by ((refine and3 (Cb11_8_0.out _ _ hSw) fun u0 u1 u2 => ?_); go_simp; exact ⟨rfl, hSw⟩)) (h := ?_)
        simp only [Act.put, pa]; try dsimp only [List.set]
        refine quietL (hy := fun E Wx hSw => by ((refine and3 (Cb11_8_1.out _ _ hSw) fun u0 u1 u2 => ?_); go_simp; exact ⟨rfl, hSw⟩)) (h := ?_)
        simp only [Act.put, pa]; try dsimp only [List.set]
        refine quietL (hy := fun E Wx hSw => by (go_simp; exact symCall (K11_3.out _ _ hSw))) (h := ?_)
        simp only [Act.put, pa]; try dsimp only [List.set]
        iterate 3 (refine quietL ?_; simp only [Act.put, pa]; try dsimp only [List.set])
        refine allocL 0 rfl (fun q => .pointer (some ⟨q, 0, none⟩)) (.cells #[.int .i64 0, .int .i64 0, .string ⟨#[]⟩] 29) (h1 := fun Wx => by go_simp) (h2 := fun qa111 => ?_)
        simp only [Act.put, pa]; try dsimp only [List.set]
        try simp only [List.set_cons_zero, List.set_cons_succ]
        refine allocL 1 rfl (fun q => .pointer (some ⟨q, 0, none⟩)) (.cells #[.string ⟨#[]⟩, .int .i64 0, .int .i64 0, .string ⟨#[]⟩, .bool false] 38) (h1 := fun Wx => by go_simp) (h2 := fun qb112 => ?_)
        simp only [Act.put, pa]; try dsimp only [List.set]
        try simp only [List.set_cons_zero, List.set_cons_succ]
        refine detL undef [boxW qa111 1 0 ⟨#[]⟩, boxE qb112] (h1 := fun Wx hSw => by (have hz := hSw.box (b := qa111) (o := objZ) 0 rfl; refine useZ3 hz fun z0 z1 z2 y0 y1 y2 => ?_; go_simp; exact ⟨rfl, hSw.set3 0 rfl (.int .i64 1) (.int .i64 0) (.string ⟨#[]⟩)⟩)) (h2 := ?_)
        simp only [Act.put, pa]; try dsimp only [List.set]
        refine detL undef [boxW qa111 1 0 ⟨#[]⟩, boxE qb112] (h1 := fun Wx hSw => by (have hz := hSw.box (b := qb112) (o := objE) 1 rfl; refine useZ5 hz fun z0 z1 z2 z3 z4 y0 y1 y2 y3 y4 => ?_; go_simp; exact ⟨rfl, hSw.set5 1 rfl (.string ⟨#[]⟩) (.int .i64 0) (.int .i64 0) (.string ⟨#[]⟩) (.bool false)⟩)) (h2 := ?_)
        simp only [Act.put, pa]; try dsimp only [List.set]
        intro w10 S
        replace S : Sep w (boxW qa111 1 0 ⟨#[]⟩ :: boxE qb112 :: boxZ qa101 :: boxV qB1 kk :: heapR h (HD L) :: boxW qD2 4 1 ⟨#[]⟩ :: boxV q3 x :: []) w10 := by rw [Hb11_8.out] at S; exact S
        clear Hb11_8 Kb11_8 K11_3 Cb11_8_0 Cb11_8_1
        refine named (boxW qa111 1 0 ⟨#[]⟩ :: boxE qb112 :: boxZ qa101 :: boxV qB1 kk :: heapR h (HD L) :: boxW qD2 4 1 ⟨#[]⟩ :: boxV q3 x :: []) fun b12_10 hb12_10 => ?_
        have Hb12_10 := Lib.hid hb12_10
        have Kb12_10 : Hid (∀ W (Q : List Res), Sep w (Q ++ b12_10) W → True) := Lib.hid fun W Q T => by
          rw [hb12_10] at T
          trivial
        have Cb12_10_0 : Hid (∀ W (Q : List Res), Sep w (Q ++ b12_10) W → W.cell? ⟨qB1, 0, none⟩ = some (.int .i64 kk.kind) ∧ W.cell? ⟨qB1, 1, none⟩ = some (.int .i64 kk.n) ∧ W.cell? ⟨qB1, 2, none⟩ = some (.string kk.s)) := Lib.hid fun W Q T => by
          rw [hb12_10] at T
          have i0 := T.box (b := qB1) (o := objV kk) (Q.length + 3) (by rw [List.getElem?_append_right (by omega), Nat.add_sub_cancel_left]; rfl)
          exact ⟨cellAt i0 0 rfl, cellAt i0 1 rfl, cellAt i0 2 rfl⟩
        have Cb12_10_1 : Hid (∀ W (Q : List Res), Sep w (Q ++ b12_10) W → W.cell? ⟨qD2, 0, none⟩ = some (.int .i64 4) ∧ W.cell? ⟨qD2, 1, none⟩ = some (.int .i64 1) ∧ W.cell? ⟨qD2, 2, none⟩ = some (.string ⟨#[]⟩)) := Lib.hid fun W Q T => by
          rw [hb12_10] at T
          have i0 := T.box (b := qD2) (o := objW 4 1 ⟨#[]⟩) (Q.length + 5) (by rw [List.getElem?_append_right (by omega), Nat.add_sub_cancel_left]; rfl)
          exact ⟨cellAt i0 0 rfl, cellAt i0 1 rfl, cellAt i0 2 rfl⟩
        have K12_3 : Hid (∀ W (Q : List Res), Sep w (Q ++ b12_10) W → Calls Tryz.prog 34 #[.pointer (some ⟨h, 0, none⟩), .agg #[.int .i64 4, .int .i64 1, .string ⟨#[]⟩], .agg #[.int .i64 kk.kind, .int .i64 kk.n, .string kk.s]] W fun e W' => e = .returned (.tuple #[zeroV, .agg #[.string keyError, .int .i64 kk.kind, .int .i64 kk.n, .string kk.s, .bool true]]) ∧ Sep w (Q ++ b12_10) W') := Lib.hid fun W Q T => by
          rw [Hb12_10.out] at T ⊢
          exact d_lost T (Q.length + 4) (by rw [List.getElem?_append_right (by omega), Nat.add_sub_cancel_left]; rfl) kk HKK.out HG.out
        replace S := Lib.hid S
        clear hb12_10
        go_upto_region 12 with fail
        have S1 : Sep w ([] ++ b12_10) (w10) := by rw [Hb12_10.out]; exact S.out
        clear S
        refine regionL (E := [emptyR, emptyR]) (base := b12_10) (Sep.putE (Sep.putE S1)) ?_
        clear S1
        refine quietL ?_
        simp only [Act.put, pa]; try dsimp only [List.set]
        refine quietL (hy := fun E Wx hSw => by ((refine and3 (Cb12_10_1.out _ _ hSw) fun u0 u1 u2 => ?_); go_simp; exact ⟨rfl, hSw⟩)) (h := ?_)
        simp only [Act.put, pa]; try dsimp only [List.set]
        refine quietL (hy := fun E Wx hSw => by ((refine and3 (Cb12_10_0.out _ _ hSw) fun u0 u1 u2 => ?_); go_simp; exact ⟨rfl, hSw⟩)) (h := ?_)
        simp only [Act.put, pa]; try dsimp only [List.set]
        refine quietL (hy := fun E Wx hSw => by (go_simp; exact symCall (K12_3.out _ _ hSw))) (h := ?_)
        simp only [Act.put, pa]; try dsimp only [List.set]
        iterate 3 (refine quietL ?_; simp only [Act.put, pa]; try dsimp only [List.set])
        refine allocL 0 rfl (fun q => .pointer (some ⟨q, 0, none⟩)) (.cells #[.int .i64 0, .int .i64 0, .string ⟨#[]⟩] 29) (h1 := fun Wx => by go_simp) (h2 := fun qa121 => ?_)
        simp only [Act.put, pa]; try dsimp only [List.set]
        try simp only [List.set_cons_zero, List.set_cons_succ]
        refine allocL 1 rfl (fun q => .pointer (some ⟨q, 0, none⟩)) (.cells #[.string ⟨#[]⟩, .int .i64 0, .int .i64 0, .string ⟨#[]⟩, .bool false] 38) (h1 := fun Wx => by go_simp) (h2 := fun qb122 => ?_)
        simp only [Act.put, pa]; try dsimp only [List.set]
        try simp only [List.set_cons_zero, List.set_cons_succ]
        refine detL undef [boxZ qa121, boxE qb122] (h1 := fun Wx hSw => by (have hz := hSw.box (b := qa121) (o := objZ) 0 rfl; refine useZ3 hz fun z0 z1 z2 y0 y1 y2 => ?_; go_simp; exact ⟨rfl, hSw.set3 0 rfl (.int .i64 0) (.int .i64 0) (.string ⟨#[]⟩)⟩)) (h2 := ?_)
        simp only [Act.put, pa]; try dsimp only [List.set]
        refine detL undef [boxZ qa121, boxX qb122 keyError kk.kind kk.n kk.s true] (h1 := fun Wx hSw => by (have hz := hSw.box (b := qb122) (o := objE) 1 rfl; refine useZ5 hz fun z0 z1 z2 z3 z4 y0 y1 y2 y3 y4 => ?_; go_simp; exact ⟨rfl, hSw.set5 1 rfl (.string keyError) (.int .i64 kk.kind) (.int .i64 kk.n) (.string kk.s) (.bool true)⟩)) (h2 := ?_)
        simp only [Act.put, pa]; try dsimp only [List.set]
        intro w12 S
        replace S : Sep w (boxZ qa121 :: boxX qb122 keyError kk.kind kk.n kk.s true :: boxW qa111 1 0 ⟨#[]⟩ :: boxE qb112 :: boxZ qa101 :: boxV qB1 kk :: heapR h (HD L) :: boxW qD2 4 1 ⟨#[]⟩ :: boxV q3 x :: []) w12 := by rw [Hb12_10.out] at S; exact S
        clear Hb12_10 Kb12_10 K12_3 Cb12_10_0 Cb12_10_1
        refine named (boxZ qa121 :: boxX qb122 keyError kk.kind kk.n kk.s true :: boxW qa111 1 0 ⟨#[]⟩ :: boxE qb112 :: boxZ qa101 :: boxV qB1 kk :: heapR h (HD L) :: boxW qD2 4 1 ⟨#[]⟩ :: boxV q3 x :: []) fun b13_12 hb13_12 => ?_
        have Hb13_12 := Lib.hid hb13_12
        have Kb13_12 : Hid (∀ W (Q : List Res), Sep w (Q ++ b13_12) W → True) := Lib.hid fun W Q T => by
          rw [hb13_12] at T
          trivial
        have Cb13_12_0 : Hid (∀ W (Q : List Res), Sep w (Q ++ b13_12) W → W.cell? ⟨qB1, 0, none⟩ = some (.int .i64 kk.kind) ∧ W.cell? ⟨qB1, 1, none⟩ = some (.int .i64 kk.n) ∧ W.cell? ⟨qB1, 2, none⟩ = some (.string kk.s)) := Lib.hid fun W Q T => by
          rw [hb13_12] at T
          have i0 := T.box (b := qB1) (o := objV kk) (Q.length + 5) (by rw [List.getElem?_append_right (by omega), Nat.add_sub_cancel_left]; rfl)
          exact ⟨cellAt i0 0 rfl, cellAt i0 1 rfl, cellAt i0 2 rfl⟩
        replace S := Lib.hid S
        clear hb13_12
        go_upto_region 13 with fail
        have S1 : Sep w ([] ++ b13_12) (w12) := by rw [Hb13_12.out]; exact S.out
        clear S
        refine regionL (E := [emptyR]) (base := b13_12) (Sep.putE S1) ?_
        clear S1
        refine quietL (hy := fun E Wx hSw => by ((refine and3 (Cb13_12_0.out _ _ hSw) fun u0 u1 u2 => ?_); go_simp; exact ⟨rfl, hSw⟩)) (h := ?_)
        simp only [Act.put, pa]; try dsimp only [List.set]
        refine quietL ?_
        simp only [Act.put, pa]; try dsimp only [List.set]
        refine allocL 0 rfl (fun q => .pointer (some ⟨q, 0, none⟩)) (.cells #[.string ⟨#[]⟩, .int .i64 0, .int .i64 0, .string ⟨#[]⟩, .bool false] 38) (h1 := fun Wx => by go_simp) (h2 := fun qb131 => ?_)
        simp only [Act.put, pa]; try dsimp only [List.set]
        try simp only [List.set_cons_zero, List.set_cons_succ]
        refine detL undef [boxX qb131 keyError kk.kind kk.n kk.s true] (h1 := fun Wx hSw => by (have hz := hSw.box (b := qb131) (o := objE) 0 rfl; refine useZ5 hz fun z0 z1 z2 z3 z4 y0 y1 y2 y3 y4 => ?_; go_simp; exact ⟨rfl, hSw.set5 0 rfl (.string keyError) (.int .i64 kk.kind) (.int .i64 kk.n) (.string kk.s) (.bool true)⟩)) (h2 := ?_)
        simp only [Act.put, pa]; try dsimp only [List.set]
        intro w14 S
        replace S : Sep w (boxX qb131 keyError kk.kind kk.n kk.s true :: boxZ qa121 :: boxX qb122 keyError kk.kind kk.n kk.s true :: boxW qa111 1 0 ⟨#[]⟩ :: boxE qb112 :: boxZ qa101 :: boxV qB1 kk :: heapR h (HD L) :: boxW qD2 4 1 ⟨#[]⟩ :: boxV q3 x :: []) w14 := by rw [Hb13_12.out] at S; exact S
        clear Hb13_12 Kb13_12 Cb13_12_0
        refine named (boxX qb131 keyError kk.kind kk.n kk.s true :: boxZ qa121 :: boxX qb122 keyError kk.kind kk.n kk.s true :: boxW qa111 1 0 ⟨#[]⟩ :: boxE qb112 :: boxZ qa101 :: boxV qB1 kk :: heapR h (HD L) :: boxW qD2 4 1 ⟨#[]⟩ :: boxV q3 x :: []) fun b14_14 hb14_14 => ?_
        have Hb14_14 := Lib.hid hb14_14
        have Kb14_14 : Hid (∀ W (Q : List Res), Sep w (Q ++ b14_14) W → True) := Lib.hid fun W Q T => by
          rw [hb14_14] at T
          trivial
        have Cb14_14_0 : Hid (∀ W (Q : List Res), Sep w (Q ++ b14_14) W → W.cell? ⟨qa111, 0, none⟩ = some (.int .i64 1) ∧ W.cell? ⟨qa111, 1, none⟩ = some (.int .i64 0) ∧ W.cell? ⟨qa111, 2, none⟩ = some (.string ⟨#[]⟩)) := Lib.hid fun W Q T => by
          rw [hb14_14] at T
          have i0 := T.box (b := qa111) (o := objW 1 0 ⟨#[]⟩) (Q.length + 3) (by rw [List.getElem?_append_right (by omega), Nat.add_sub_cancel_left]; rfl)
          exact ⟨cellAt i0 0 rfl, cellAt i0 1 rfl, cellAt i0 2 rfl⟩
        have Cb14_14_1 : Hid (∀ W (Q : List Res), Sep w (Q ++ b14_14) W → W.cell? ⟨qb112, 0, none⟩ = some (.string ⟨#[]⟩) ∧ W.cell? ⟨qb112, 1, none⟩ = some (.int .i64 0) ∧ W.cell? ⟨qb112, 2, none⟩ = some (.int .i64 0) ∧ W.cell? ⟨qb112, 3, none⟩ = some (.string ⟨#[]⟩) ∧ W.cell? ⟨qb112, 4, none⟩ = some (.bool false)) := Lib.hid fun W Q T => by
          rw [hb14_14] at T
          have i0 := T.box (b := qb112) (o := objE) (Q.length + 4) (by rw [List.getElem?_append_right (by omega), Nat.add_sub_cancel_left]; rfl)
          exact ⟨cellAt i0 0 rfl, cellAt i0 1 rfl, cellAt i0 2 rfl, cellAt i0 3 rfl, cellAt i0 4 rfl⟩
        have Cb14_14_2 : Hid (∀ W (Q : List Res), Sep w (Q ++ b14_14) W → W.cell? ⟨qb122, 0, none⟩ = some (.string keyError) ∧ W.cell? ⟨qb122, 1, none⟩ = some (.int .i64 kk.kind) ∧ W.cell? ⟨qb122, 2, none⟩ = some (.int .i64 kk.n) ∧ W.cell? ⟨qb122, 3, none⟩ = some (.string kk.s) ∧ W.cell? ⟨qb122, 4, none⟩ = some (.bool true)) := Lib.hid fun W Q T => by
          rw [hb14_14] at T
          have i0 := T.box (b := qb122) (o := objX keyError kk.kind kk.n kk.s true) (Q.length + 2) (by rw [List.getElem?_append_right (by omega), Nat.add_sub_cancel_left]; rfl)
          exact ⟨cellAt i0 0 rfl, cellAt i0 1 rfl, cellAt i0 2 rfl, cellAt i0 3 rfl, cellAt i0 4 rfl⟩
        have Cb14_14_3 : Hid (∀ W (Q : List Res), Sep w (Q ++ b14_14) W → W.cell? ⟨qb131, 0, none⟩ = some (.string keyError) ∧ W.cell? ⟨qb131, 1, none⟩ = some (.int .i64 kk.kind) ∧ W.cell? ⟨qb131, 2, none⟩ = some (.int .i64 kk.n) ∧ W.cell? ⟨qb131, 3, none⟩ = some (.string kk.s) ∧ W.cell? ⟨qb131, 4, none⟩ = some (.bool true)) := Lib.hid fun W Q T => by
          rw [hb14_14] at T
          have i0 := T.box (b := qb131) (o := objX keyError kk.kind kk.n kk.s true) (Q.length + 0) (by rw [List.getElem?_append_right (by omega), Nat.add_sub_cancel_left]; rfl)
          exact ⟨cellAt i0 0 rfl, cellAt i0 1 rfl, cellAt i0 2 rfl, cellAt i0 3 rfl, cellAt i0 4 rfl⟩
        have K14_1 : Hid (∀ W (Q : List Res), Sep w (Q ++ b14_14) W → Calls Tryz.prog 19 #[excZ] W fun e W' => e = .returned (.bool true) ∧ Sep w (Q ++ b14_14) W') := Lib.hid fun W Q T => by
          exact (none_z W).mono fun e W' ⟨e1, e2⟩ => ⟨e1, T.later e2⟩
        have K14_6 : Hid (∀ W (Q : List Res), Sep w (Q ++ b14_14) W → Calls Tryz.prog 20 #[.bool false] W fun e W' => e = .returned (.agg #[.int .i64 1, .int .i64 0, .string ⟨#[]⟩]) ∧ Sep w (Q ++ b14_14) W') := Lib.hid fun W Q T => by
          exact (lyes_ok W false).mono fun e W' ⟨e1, e2⟩ => ⟨e1, T.later e2⟩
        replace S := Lib.hid S
        clear hb14_14
        go_upto_region 14 with fail
        have S1 : Sep w ([] ++ b14_14) (w14) := by rw [Hb14_14.out]; exact S.out
        clear S
        refine regionP 26 0 (E := []) (base := b14_14) S1 ?_
        clear S1
        refine quietP (hy := fun E Wx hSw => by ((refine and5 (Cb14_14_1.out _ _ hSw) fun u0 u1 u2 u3 u4 => ?_); go_simp; exact ⟨rfl, hSw⟩)) (h := ?_)
        simp only [Act.put, pa]; try dsimp only [List.set]
        refine quietP (hy := fun E Wx hSw => by (go_simp; exact symCall (K14_1.out _ _ hSw))) (h := ?_)
        simp only [Act.put, pa]; try dsimp only [List.set]
        iterate 2 (refine quietP ?_; simp only [Act.put, pa]; try dsimp only [List.set])
        refine quietP (hy := fun E Wx hSw => by ((refine and3 (Cb14_14_0.out _ _ hSw) fun u0 u1 u2 => ?_); go_simp; exact ⟨rfl, hSw⟩)) (h := ?_)
        simp only [Act.put, pa]; try dsimp only [List.set]
        refine quietP ?_
        simp only [Act.put, pa]; try dsimp only [List.set]
        refine quietP (hy := fun E Wx hSw => by (go_simp; exact symCall (K14_6.out _ _ hSw))) (h := ?_)
        simp only [Act.put, pa]; try dsimp only [List.set]
        iterate 6 (refine quietP ?_; simp only [Act.put, pa]; try dsimp only [List.set])
        refine quietP (hy := fun E Wx hSw => by ((refine and5 (Cb14_14_2.out _ _ hSw) fun u0 u1 u2 u3 u4 => ?_); go_simp; exact ⟨rfl, hSw⟩)) (h := ?_)
        simp only [Act.put, pa]; try dsimp only [List.set]
        refine quietP (hy := fun E Wx hSw => by ((refine and5 (Cb14_14_3.out _ _ hSw) fun u0 u1 u2 u3 u4 => ?_); go_simp; exact ⟨rfl, hSw⟩)) (h := ?_)
        simp only [Act.put, pa]; try dsimp only [List.set]
        iterate 6 (refine quietP ?_; simp only [Act.put, pa]; try dsimp only [List.set])
        iterate 3 (refine skipP ?_; simp only [Act.put, pa]; try dsimp only [List.set])
        iterate 2 (refine quietP ?_; simp only [Act.put, pa]; try dsimp only [List.set])
        refine endP ?_
        refine doneS (h := fun w16 S => ?_)
        replace S : Sep w (boxX qb131 keyError kk.kind kk.n kk.s true :: boxZ qa121 :: boxX qb122 keyError kk.kind kk.n kk.s true :: boxW qa111 1 0 ⟨#[]⟩ :: boxE qb112 :: boxZ qa101 :: boxV qB1 kk :: heapR h (HD L) :: boxW qD2 4 1 ⟨#[]⟩ :: boxV q3 x :: []) w16 := by rw [Hb14_14.out] at S; exact S
        clear Hb14_14 Kb14_14 K14_1 K14_6 Cb14_14_0 Cb14_14_1 Cb14_14_2 Cb14_14_3
        by_cases h7 : bits .and .i64 v.n 7 = 7
        · as_aux_lemma =>
            refine named (boxX qb131 keyError kk.kind kk.n kk.s true :: boxZ qa121 :: boxX qb122 keyError kk.kind kk.n kk.s true :: boxW qa111 1 0 ⟨#[]⟩ :: boxE qb112 :: boxZ qa101 :: boxV qB1 kk :: heapR h (HD L) :: boxW qD2 4 1 ⟨#[]⟩ :: boxV q3 x :: []) fun b16_36 hb16_36 => ?_
            have Hb16_36 := Lib.hid hb16_36
            have Kb16_36 : Hid (∀ W (Q : List Res), Sep w (Q ++ b16_36) W → True) := Lib.hid fun W Q T => by
              rw [hb16_36] at T
              trivial
            replace S := Lib.hid S
            clear hb16_36
            go_upto_region 16 with fail
            have S1 : Sep w ([] ++ b16_36) (w16) := by rw [Hb16_36.out]; exact S.out
            clear S
            refine regionL (E := []) (base := b16_36) S1 ?_
            clear S1
            iterate 4 (refine quietL ?_; simp only [Act.put, pa]; try dsimp only [List.set])
            refine quietL (hy := fun E Wx hSw => by ((refine and3 (CX.out _ _ hSw) fun u0 u1 u2 => ?_); go_simp; exact ⟨rfl, hSw⟩)) (h := ?_)
            simp only [Act.put, pa]; try dsimp only [List.set]
            iterate 2 (refine quietL ?_; simp only [Act.put, pa]; try dsimp only [List.set])
            intro w38 S
            replace S : Sep w (boxX qb131 keyError kk.kind kk.n kk.s true :: boxZ qa121 :: boxX qb122 keyError kk.kind kk.n kk.s true :: boxW qa111 1 0 ⟨#[]⟩ :: boxE qb112 :: boxZ qa101 :: boxV qB1 kk :: heapR h (HD L) :: boxW qD2 4 1 ⟨#[]⟩ :: boxV q3 x :: []) w38 := by rw [Hb16_36.out] at S; exact S
            clear Hb16_36 Kb16_36
            clear h7
            replace S : Sep w (heapR h (HD L) :: boxX qb131 keyError kk.kind kk.n kk.s true :: boxZ qa121 :: boxX qb122 keyError kk.kind kk.n kk.s true :: boxW qa111 1 0 ⟨#[]⟩ :: boxE qb112 :: boxZ qa101 :: boxV qB1 kk :: boxW qD2 4 1 ⟨#[]⟩ :: boxV q3 x :: []) (w38) := by
              refine (show Sep w ([boxX qb131 keyError kk.kind kk.n kk.s true, boxZ qa121, boxX qb122 keyError kk.kind kk.n kk.s true, boxW qa111 1 0 ⟨#[]⟩, boxE qb112, boxZ qa101, boxV qB1 kk, heapR h (HD L), boxW qD2 4 1 ⟨#[]⟩, boxV q3 x] ++ []) _ from S).perm ?_
              exact List.Perm.append_right [] (perm_of (l := [boxX qb131 keyError kk.kind kk.n kk.s true, boxZ qa121, boxX qb122 keyError kk.kind kk.n kk.s true, boxW qa111 1 0 ⟨#[]⟩, boxE qb112, boxZ qa101, boxV qB1 kk, heapR h (HD L), boxW qD2 4 1 ⟨#[]⟩, boxV q3 x]) [7, 0, 1, 2, 3, 4, 5, 6, 8, 9] (by show (List.range' 0 10).Perm [7, 0, 1, 2, 3, 4, 5, 6, 8, 9]; decide) (by rfl))
            refine named (boxX qb131 keyError kk.kind kk.n kk.s true :: boxZ qa121 :: boxX qb122 keyError kk.kind kk.n kk.s true :: boxW qa111 1 0 ⟨#[]⟩ :: boxE qb112 :: boxZ qa101 :: boxV qB1 kk :: boxW qD2 4 1 ⟨#[]⟩ :: boxV q3 x :: []) fun b17_38 hb17_38 => ?_
            have Hb17_38 := Lib.hid hb17_38
            have Kb17_38 : Hid (∀ W (Q : List Res), Sep w (Q ++ b17_38) W → True) := Lib.hid fun W Q T => by
              rw [hb17_38] at T
              trivial
            have Cb17_38_0 : Hid (∀ W (Q : List Res), Sep w (Q ++ b17_38) W → W.cell? ⟨qB1, 0, none⟩ = some (.int .i64 kk.kind) ∧ W.cell? ⟨qB1, 1, none⟩ = some (.int .i64 kk.n) ∧ W.cell? ⟨qB1, 2, none⟩ = some (.string kk.s)) := Lib.hid fun W Q T => by
              rw [hb17_38] at T
              have i0 := T.box (b := qB1) (o := objV kk) (Q.length + 6) (by rw [List.getElem?_append_right (by omega), Nat.add_sub_cancel_left]; rfl)
              exact ⟨cellAt i0 0 rfl, cellAt i0 1 rfl, cellAt i0 2 rfl⟩
            have Cb17_38_1 : Hid (∀ W (Q : List Res), Sep w (Q ++ b17_38) W → W.cell? ⟨qD2, 0, none⟩ = some (.int .i64 4) ∧ W.cell? ⟨qD2, 1, none⟩ = some (.int .i64 1) ∧ W.cell? ⟨qD2, 2, none⟩ = some (.string ⟨#[]⟩)) := Lib.hid fun W Q T => by
              rw [hb17_38] at T
              have i0 := T.box (b := qD2) (o := objW 4 1 ⟨#[]⟩) (Q.length + 7) (by rw [List.getElem?_append_right (by omega), Nat.add_sub_cancel_left]; rfl)
              exact ⟨cellAt i0 0 rfl, cellAt i0 1 rfl, cellAt i0 2 rfl⟩
            replace S := Lib.hid S
            clear hb17_38
            go_upto_region 17 with fail
            have S1 : Sep w ([heapR h (HD L)] ++ b17_38) (w38) := by rw [Hb17_38.out]; exact S.out
            clear S
            refine regionL (E := [emptyR, heapR h (HD L)]) (base := b17_38) (Sep.putE S1) ?_
            clear S1
            refine quietL ?_
            simp only [Act.put, pa]; try dsimp only [List.set]
            refine quietL (hy := fun E Wx hSw => by ((refine and3 (Cb17_38_1.out _ _ hSw) fun u0 u1 u2 => ?_); go_simp; exact ⟨rfl, hSw⟩)) (h := ?_)
            simp only [Act.put, pa]; try dsimp only [List.set]
            refine quietL (hy := fun E Wx hSw => by ((refine and3 (Cb17_38_0.out _ _ hSw) fun u0 u1 u2 => ?_); go_simp; exact ⟨rfl, hSw⟩)) (h := ?_)
            simp only [Act.put, pa]; try dsimp only [List.set]
            refine detL (.agg #[.string keyError, .int .i64 kk.kind, .int .i64 kk.n, .string kk.s, .bool true]) [emptyR, heapR h (HD (delL L kk))] (h1 := fun Wx hSw => by (go_simp; refine symCall ?_; exact d_rem_no hSw 1 rfl HLB.out kk HKK.out (by rw [HG.out]; rfl))) (h2 := ?_)
            simp only [Act.put, pa]; try dsimp only [List.set]
            refine allocL 0 rfl (fun q => .pointer (some ⟨q, 0, none⟩)) (.cells #[.string ⟨#[]⟩, .int .i64 0, .int .i64 0, .string ⟨#[]⟩, .bool false] 38) (h1 := fun Wx => by go_simp) (h2 := fun qb172 => ?_)
            simp only [Act.put, pa]; try dsimp only [List.set]
            try simp only [List.set_cons_zero, List.set_cons_succ]
            refine detL undef [boxX qb172 keyError kk.kind kk.n kk.s true, heapR h (HD (delL L kk))] (h1 := fun Wx hSw => by (have hz := hSw.box (b := qb172) (o := objE) 0 rfl; refine useZ5 hz fun z0 z1 z2 z3 z4 y0 y1 y2 y3 y4 => ?_; go_simp; exact ⟨rfl, hSw.set5 0 rfl (.string keyError) (.int .i64 kk.kind) (.int .i64 kk.n) (.string kk.s) (.bool true)⟩)) (h2 := ?_)
            simp only [Act.put, pa]; try dsimp only [List.set]
            intro w40 S
            replace S : Sep w (boxX qb172 keyError kk.kind kk.n kk.s true :: heapR h (HD (delL L kk)) :: boxX qb131 keyError kk.kind kk.n kk.s true :: boxZ qa121 :: boxX qb122 keyError kk.kind kk.n kk.s true :: boxW qa111 1 0 ⟨#[]⟩ :: boxE qb112 :: boxZ qa101 :: boxV qB1 kk :: boxW qD2 4 1 ⟨#[]⟩ :: boxV q3 x :: []) w40 := by rw [Hb17_38.out] at S; exact S
            clear Hb17_38 Kb17_38 Cb17_38_0 Cb17_38_1
            have HG2 : Hid (getL (delL L kk) kk = none) := Lib.hid (by rw [getL_delL, if_pos rfl])
            refine named (boxX qb172 keyError kk.kind kk.n kk.s true :: heapR h (HD (delL L kk)) :: boxX qb131 keyError kk.kind kk.n kk.s true :: boxZ qa121 :: boxX qb122 keyError kk.kind kk.n kk.s true :: boxW qa111 1 0 ⟨#[]⟩ :: boxE qb112 :: boxZ qa101 :: boxV qB1 kk :: boxW qD2 4 1 ⟨#[]⟩ :: boxV q3 x :: []) fun b18_40 hb18_40 => ?_
            have Hb18_40 := Lib.hid hb18_40
            have Kb18_40 : Hid (∀ W (Q : List Res), Sep w (Q ++ b18_40) W → True) := Lib.hid fun W Q T => by
              rw [hb18_40] at T
              trivial
            have Cb18_40_0 : Hid (∀ W (Q : List Res), Sep w (Q ++ b18_40) W → W.cell? ⟨qB1, 0, none⟩ = some (.int .i64 kk.kind) ∧ W.cell? ⟨qB1, 1, none⟩ = some (.int .i64 kk.n) ∧ W.cell? ⟨qB1, 2, none⟩ = some (.string kk.s)) := Lib.hid fun W Q T => by
              rw [hb18_40] at T
              have i0 := T.box (b := qB1) (o := objV kk) (Q.length + 8) (by rw [List.getElem?_append_right (by omega), Nat.add_sub_cancel_left]; rfl)
              exact ⟨cellAt i0 0 rfl, cellAt i0 1 rfl, cellAt i0 2 rfl⟩
            have Cb18_40_1 : Hid (∀ W (Q : List Res), Sep w (Q ++ b18_40) W → W.cell? ⟨qD2, 0, none⟩ = some (.int .i64 4) ∧ W.cell? ⟨qD2, 1, none⟩ = some (.int .i64 1) ∧ W.cell? ⟨qD2, 2, none⟩ = some (.string ⟨#[]⟩)) := Lib.hid fun W Q T => by
              rw [hb18_40] at T
              have i0 := T.box (b := qD2) (o := objW 4 1 ⟨#[]⟩) (Q.length + 9) (by rw [List.getElem?_append_right (by omega), Nat.add_sub_cancel_left]; rfl)
              exact ⟨cellAt i0 0 rfl, cellAt i0 1 rfl, cellAt i0 2 rfl⟩
            have K18_3 : Hid (∀ W (Q : List Res), Sep w (Q ++ b18_40) W → Calls Tryz.prog 18 #[.pointer (some ⟨h, 0, none⟩), .string ⟨#[110, 111, 116, 32, 105, 110]⟩, .agg #[.int .i64 kk.kind, .int .i64 kk.n, .string kk.s], .agg #[.int .i64 4, .int .i64 1, .string ⟨#[]⟩]] W fun e W' => e = .returned (.tuple #[.agg #[.int .i64 1, .int .i64 1, .string ⟨#[]⟩], excZ]) ∧ Sep w (Q ++ b18_40) W') := Lib.hid fun W Q T => by
              rw [Hb18_40.out] at T ⊢
              exact d_nin T (Q.length + 1) (by rw [List.getElem?_append_right (by omega), Nat.add_sub_cancel_left]; rfl) kk HKK.out HG2.out
            replace S := Lib.hid S
            clear hb18_40
            go_upto_region 18 with fail
            have S1 : Sep w ([] ++ b18_40) (w40) := by rw [Hb18_40.out]; exact S.out
            clear S
            refine regionL (E := [emptyR, emptyR]) (base := b18_40) (Sep.putE (Sep.putE S1)) ?_
            clear S1
            refine quietL ?_
            simp only [Act.put, pa]; try dsimp only [List.set]
            refine quietL (hy := fun E Wx hSw => by ((refine and3 (Cb18_40_0.out _ _ hSw) fun u0 u1 u2 => ?_); go_simp; exact ⟨rfl, hSw⟩)) (h := ?_)
            simp only [Act.put, pa]; try dsimp only [List.set]
            refine quietL (hy := fun E Wx hSw => by ((refine and3 (Cb18_40_1.out _ _ hSw) fun u0 u1 u2 => ?_); go_simp; exact ⟨rfl, hSw⟩)) (h := ?_)
            simp only [Act.put, pa]; try dsimp only [List.set]
            refine quietL (hy := fun E Wx hSw => by (go_simp; exact symCall (K18_3.out _ _ hSw))) (h := ?_)
            simp only [Act.put, pa]; try dsimp only [List.set]
            iterate 3 (refine quietL ?_; simp only [Act.put, pa]; try dsimp only [List.set])
            refine allocL 0 rfl (fun q => .pointer (some ⟨q, 0, none⟩)) (.cells #[.int .i64 0, .int .i64 0, .string ⟨#[]⟩] 29) (h1 := fun Wx => by go_simp) (h2 := fun qa181 => ?_)
            simp only [Act.put, pa]; try dsimp only [List.set]
            try simp only [List.set_cons_zero, List.set_cons_succ]
            refine allocL 1 rfl (fun q => .pointer (some ⟨q, 0, none⟩)) (.cells #[.string ⟨#[]⟩, .int .i64 0, .int .i64 0, .string ⟨#[]⟩, .bool false] 38) (h1 := fun Wx => by go_simp) (h2 := fun qb182 => ?_)
            simp only [Act.put, pa]; try dsimp only [List.set]
            try simp only [List.set_cons_zero, List.set_cons_succ]
            refine detL undef [boxW qa181 1 1 ⟨#[]⟩, boxE qb182] (h1 := fun Wx hSw => by (have hz := hSw.box (b := qa181) (o := objZ) 0 rfl; refine useZ3 hz fun z0 z1 z2 y0 y1 y2 => ?_; go_simp; exact ⟨rfl, hSw.set3 0 rfl (.int .i64 1) (.int .i64 1) (.string ⟨#[]⟩)⟩)) (h2 := ?_)
            simp only [Act.put, pa]; try dsimp only [List.set]
            refine detL undef [boxW qa181 1 1 ⟨#[]⟩, boxE qb182] (h1 := fun Wx hSw => by (have hz := hSw.box (b := qb182) (o := objE) 1 rfl; refine useZ5 hz fun z0 z1 z2 z3 z4 y0 y1 y2 y3 y4 => ?_; go_simp; exact ⟨rfl, hSw.set5 1 rfl (.string ⟨#[]⟩) (.int .i64 0) (.int .i64 0) (.string ⟨#[]⟩) (.bool false)⟩)) (h2 := ?_)
            simp only [Act.put, pa]; try dsimp only [List.set]
            intro w42 S
            replace S : Sep w (boxW qa181 1 1 ⟨#[]⟩ :: boxE qb182 :: boxX qb172 keyError kk.kind kk.n kk.s true :: heapR h (HD (delL L kk)) :: boxX qb131 keyError kk.kind kk.n kk.s true :: boxZ qa121 :: boxX qb122 keyError kk.kind kk.n kk.s true :: boxW qa111 1 0 ⟨#[]⟩ :: boxE qb112 :: boxZ qa101 :: boxV qB1 kk :: boxW qD2 4 1 ⟨#[]⟩ :: boxV q3 x :: []) w42 := by rw [Hb18_40.out] at S; exact S
            clear Hb18_40 Kb18_40 K18_3 Cb18_40_0 Cb18_40_1
            refine named (boxW qa181 1 1 ⟨#[]⟩ :: boxE qb182 :: boxX qb172 keyError kk.kind kk.n kk.s true :: heapR h (HD (delL L kk)) :: boxX qb131 keyError kk.kind kk.n kk.s true :: boxZ qa121 :: boxX qb122 keyError kk.kind kk.n kk.s true :: boxW qa111 1 0 ⟨#[]⟩ :: boxE qb112 :: boxZ qa101 :: boxV qB1 kk :: boxW qD2 4 1 ⟨#[]⟩ :: boxV q3 x :: []) fun b19_42 hb19_42 => ?_
            have Hb19_42 := Lib.hid hb19_42
            have Kb19_42 : Hid (∀ W (Q : List Res), Sep w (Q ++ b19_42) W → True) := Lib.hid fun W Q T => by
              rw [hb19_42] at T
              trivial
            have Cb19_42_0 : Hid (∀ W (Q : List Res), Sep w (Q ++ b19_42) W → W.cell? ⟨qa181, 0, none⟩ = some (.int .i64 1) ∧ W.cell? ⟨qa181, 1, none⟩ = some (.int .i64 1) ∧ W.cell? ⟨qa181, 2, none⟩ = some (.string ⟨#[]⟩)) := Lib.hid fun W Q T => by
              rw [hb19_42] at T
              have i0 := T.box (b := qa181) (o := objW 1 1 ⟨#[]⟩) (Q.length + 0) (by rw [List.getElem?_append_right (by omega), Nat.add_sub_cancel_left]; rfl)
              exact ⟨cellAt i0 0 rfl, cellAt i0 1 rfl, cellAt i0 2 rfl⟩
            have Cb19_42_1 : Hid (∀ W (Q : List Res), Sep w (Q ++ b19_42) W → W.cell? ⟨qb131, 0, none⟩ = some (.string keyError) ∧ W.cell? ⟨qb131, 1, none⟩ = some (.int .i64 kk.kind) ∧ W.cell? ⟨qb131, 2, none⟩ = some (.int .i64 kk.n) ∧ W.cell? ⟨qb131, 3, none⟩ = some (.string kk.s) ∧ W.cell? ⟨qb131, 4, none⟩ = some (.bool true)) := Lib.hid fun W Q T => by
              rw [hb19_42] at T
              have i0 := T.box (b := qb131) (o := objX keyError kk.kind kk.n kk.s true) (Q.length + 4) (by rw [List.getElem?_append_right (by omega), Nat.add_sub_cancel_left]; rfl)
              exact ⟨cellAt i0 0 rfl, cellAt i0 1 rfl, cellAt i0 2 rfl, cellAt i0 3 rfl, cellAt i0 4 rfl⟩
            have Cb19_42_2 : Hid (∀ W (Q : List Res), Sep w (Q ++ b19_42) W → W.cell? ⟨qb172, 0, none⟩ = some (.string keyError) ∧ W.cell? ⟨qb172, 1, none⟩ = some (.int .i64 kk.kind) ∧ W.cell? ⟨qb172, 2, none⟩ = some (.int .i64 kk.n) ∧ W.cell? ⟨qb172, 3, none⟩ = some (.string kk.s) ∧ W.cell? ⟨qb172, 4, none⟩ = some (.bool true)) := Lib.hid fun W Q T => by
              rw [hb19_42] at T
              have i0 := T.box (b := qb172) (o := objX keyError kk.kind kk.n kk.s true) (Q.length + 2) (by rw [List.getElem?_append_right (by omega), Nat.add_sub_cancel_left]; rfl)
              exact ⟨cellAt i0 0 rfl, cellAt i0 1 rfl, cellAt i0 2 rfl, cellAt i0 3 rfl, cellAt i0 4 rfl⟩
            have Cb19_42_3 : Hid (∀ W (Q : List Res), Sep w (Q ++ b19_42) W → W.cell? ⟨qb182, 0, none⟩ = some (.string ⟨#[]⟩) ∧ W.cell? ⟨qb182, 1, none⟩ = some (.int .i64 0) ∧ W.cell? ⟨qb182, 2, none⟩ = some (.int .i64 0) ∧ W.cell? ⟨qb182, 3, none⟩ = some (.string ⟨#[]⟩) ∧ W.cell? ⟨qb182, 4, none⟩ = some (.bool false)) := Lib.hid fun W Q T => by
              rw [hb19_42] at T
              have i0 := T.box (b := qb182) (o := objE) (Q.length + 1) (by rw [List.getElem?_append_right (by omega), Nat.add_sub_cancel_left]; rfl)
              exact ⟨cellAt i0 0 rfl, cellAt i0 1 rfl, cellAt i0 2 rfl, cellAt i0 3 rfl, cellAt i0 4 rfl⟩
            have K19_17 : Hid (∀ W (Q : List Res), Sep w (Q ++ b19_42) W → Calls Tryz.prog 20 #[.bool true] W fun e W' => e = .returned (.agg #[.int .i64 1, .int .i64 1, .string ⟨#[]⟩]) ∧ Sep w (Q ++ b19_42) W') := Lib.hid fun W Q T => by
              exact (lyes_ok W true).mono fun e W' ⟨e1, e2⟩ => ⟨e1, T.later e2⟩
            have K19_22 : Hid (∀ W (Q : List Res), Sep w (Q ++ b19_42) W → Calls Tryz.prog 19 #[excZ] W fun e W' => e = .returned (.bool true) ∧ Sep w (Q ++ b19_42) W') := Lib.hid fun W Q T => by
              exact (none_z W).mono fun e W' ⟨e1, e2⟩ => ⟨e1, T.later e2⟩
            replace S := Lib.hid S
            clear hb19_42
            go_upto_region 19 with fail
            have S1 : Sep w ([] ++ b19_42) (w42) := by rw [Hb19_42.out]; exact S.out
            clear S
            refine regionP 25 0 (E := []) (base := b19_42) S1 ?_
            clear S1
            iterate 2 (refine quietP ?_; simp only [Act.put, pa]; try dsimp only [List.set])
            iterate 3 (refine skipP ?_; simp only [Act.put, pa]; try dsimp only [List.set])
            iterate 5 (refine quietP ?_; simp only [Act.put, pa]; try dsimp only [List.set])
            refine quietP (hy := fun E Wx hSw => by ((refine and5 (Cb19_42_2.out _ _ hSw) fun u0 u1 u2 u3 u4 => ?_); go_simp; exact ⟨rfl, hSw⟩)) (h := ?_)
            simp only [Act.put, pa]; try dsimp only [List.set]
            refine quietP (hy := fun E Wx hSw => by ((refine and5 (Cb19_42_1.out _ _ hSw) fun u0 u1 u2 u3 u4 => ?_); go_simp; exact ⟨rfl, hSw⟩)) (h := ?_)
            simp only [Act.put, pa]; try dsimp only [List.set]
            iterate 4 (refine quietP ?_; simp only [Act.put, pa]; try dsimp only [List.set])
            refine quietP (hy := fun E Wx hSw => by ((refine and3 (Cb19_42_0.out _ _ hSw) fun u0 u1 u2 => ?_); go_simp; exact ⟨rfl, hSw⟩)) (h := ?_)
            simp only [Act.put, pa]; try dsimp only [List.set]
            refine quietP (hy := fun E Wx hSw => by (go_simp; exact symCall (K19_17.out _ _ hSw))) (h := ?_)
            simp only [Act.put, pa]; try dsimp only [List.set]
            iterate 3 (refine quietP ?_; simp only [Act.put, pa]; try dsimp only [List.set])
            refine quietP (hy := fun E Wx hSw => by ((refine and5 (Cb19_42_3.out _ _ hSw) fun u0 u1 u2 u3 u4 => ?_); go_simp; exact ⟨rfl, hSw⟩)) (h := ?_)
            simp only [Act.put, pa]; try dsimp only [List.set]
            refine quietP (hy := fun E Wx hSw => by (go_simp; exact symCall (K19_22.out _ _ hSw))) (h := ?_)
            simp only [Act.put, pa]; try dsimp only [List.set]
            iterate 2 (refine quietP ?_; simp only [Act.put, pa]; try dsimp only [List.set])
            refine endP ?_
            refine doneS (h := fun w44 S => ?_)
            replace S : Sep w (boxW qa181 1 1 ⟨#[]⟩ :: boxE qb182 :: boxX qb172 keyError kk.kind kk.n kk.s true :: heapR h (HD (delL L kk)) :: boxX qb131 keyError kk.kind kk.n kk.s true :: boxZ qa121 :: boxX qb122 keyError kk.kind kk.n kk.s true :: boxW qa111 1 0 ⟨#[]⟩ :: boxE qb112 :: boxZ qa101 :: boxV qB1 kk :: boxW qD2 4 1 ⟨#[]⟩ :: boxV q3 x :: []) w44 := by rw [Hb19_42.out] at S; exact S
            clear Hb19_42 Kb19_42 K19_17 K19_22 Cb19_42_0 Cb19_42_1 Cb19_42_2 Cb19_42_3
            replace S : Sep w ([boxW qa181 1 1 ⟨#[]⟩, boxE qb182, boxX qb172 keyError kk.kind kk.n kk.s true, boxX qb131 keyError kk.kind kk.n kk.s true, boxZ qa121, boxX qb122 keyError kk.kind kk.n kk.s true, boxW qa111 1 0 ⟨#[]⟩, boxE qb112, boxZ qa101, boxV qB1 kk, heapR h (HD (delL L kk)), boxW qD2 4 1 ⟨#[]⟩, boxV q3 x] ++ []) (w44) := by
              refine (show Sep w ([boxW qa181 1 1 ⟨#[]⟩, boxE qb182, boxX qb172 keyError kk.kind kk.n kk.s true, heapR h (HD (delL L kk)), boxX qb131 keyError kk.kind kk.n kk.s true, boxZ qa121, boxX qb122 keyError kk.kind kk.n kk.s true, boxW qa111 1 0 ⟨#[]⟩, boxE qb112, boxZ qa101, boxV qB1 kk, boxW qD2 4 1 ⟨#[]⟩, boxV q3 x] ++ []) _ from S).perm ?_
              exact List.Perm.append_right [] (perm_of (l := [boxW qa181 1 1 ⟨#[]⟩, boxE qb182, boxX qb172 keyError kk.kind kk.n kk.s true, heapR h (HD (delL L kk)), boxX qb131 keyError kk.kind kk.n kk.s true, boxZ qa121, boxX qb122 keyError kk.kind kk.n kk.s true, boxW qa111 1 0 ⟨#[]⟩, boxE qb112, boxZ qa101, boxV qB1 kk, boxW qD2 4 1 ⟨#[]⟩, boxV q3 x]) [0, 1, 2, 4, 5, 6, 7, 8, 9, 10, 3, 11, 12] (by show (List.range' 0 13).Perm [0, 1, 2, 4, 5, 6, 7, 8, 9, 10, 3, 11, 12]; decide) (by rfl))
            iterate 10 replace S := S.tail
            replace S : Sep w (heapR h (HD (delL L kk)) :: boxW qD2 4 1 ⟨#[]⟩ :: boxV q3 x :: []) (w44) := S
            replace S := Lib.hid S
            go_wp2
            exact ⟨⟨k + 1, (delL L kk), by have := hc1; omega, by omega, by go_num, (Nat.le_trans (delL_len L kk) (by have := HL.out; omega)), S.out⟩, by simp [intOf]; omega⟩
        · as_aux_lemma =>
            have h8 : (bits .and .i64 v.n 7 == 7) = false := by simpa using h7
            clear h7
            refine named (boxX qb131 keyError kk.kind kk.n kk.s true :: boxZ qa121 :: boxX qb122 keyError kk.kind kk.n kk.s true :: boxW qa111 1 0 ⟨#[]⟩ :: boxE qb112 :: boxZ qa101 :: boxV qB1 kk :: heapR h (HD L) :: boxW qD2 4 1 ⟨#[]⟩ :: boxV q3 x :: []) fun b16_56 hb16_56 => ?_
            have Hb16_56 := Lib.hid hb16_56
            have Kb16_56 : Hid (∀ W (Q : List Res), Sep w (Q ++ b16_56) W → True) := Lib.hid fun W Q T => by
              rw [hb16_56] at T
              trivial
            replace S := Lib.hid S
            clear hb16_56
            go_upto_region 16 with fail
            have S1 : Sep w ([] ++ b16_56) (w16) := by rw [Hb16_56.out]; exact S.out
            clear S
            refine regionL (E := []) (base := b16_56) S1 ?_
            clear S1
            iterate 4 (refine quietL ?_; simp only [Act.put, pa]; try dsimp only [List.set])
            refine quietL (hy := fun E Wx hSw => by ((refine and3 (CX.out _ _ hSw) fun u0 u1 u2 => ?_); go_simp; exact ⟨rfl, hSw⟩)) (h := ?_)
            simp only [Act.put, pa]; try dsimp only [List.set]
            iterate 2 (refine quietL ?_; simp only [Act.put, pa]; try dsimp only [List.set])
            intro w58 S
            replace S : Sep w (boxX qb131 keyError kk.kind kk.n kk.s true :: boxZ qa121 :: boxX qb122 keyError kk.kind kk.n kk.s true :: boxW qa111 1 0 ⟨#[]⟩ :: boxE qb112 :: boxZ qa101 :: boxV qB1 kk :: heapR h (HD L) :: boxW qD2 4 1 ⟨#[]⟩ :: boxV q3 x :: []) w58 := by rw [Hb16_56.out] at S; exact S
            clear Hb16_56 Kb16_56
            clear h8
            replace S : Sep w (heapR h (HD L) :: boxX qb131 keyError kk.kind kk.n kk.s true :: boxZ qa121 :: boxX qb122 keyError kk.kind kk.n kk.s true :: boxW qa111 1 0 ⟨#[]⟩ :: boxE qb112 :: boxZ qa101 :: boxV qB1 kk :: boxW qD2 4 1 ⟨#[]⟩ :: boxV q3 x :: []) (w58) := by
              refine (show Sep w ([boxX qb131 keyError kk.kind kk.n kk.s true, boxZ qa121, boxX qb122 keyError kk.kind kk.n kk.s true, boxW qa111 1 0 ⟨#[]⟩, boxE qb112, boxZ qa101, boxV qB1 kk, heapR h (HD L), boxW qD2 4 1 ⟨#[]⟩, boxV q3 x] ++ []) _ from S).perm ?_
              exact List.Perm.append_right [] (perm_of (l := [boxX qb131 keyError kk.kind kk.n kk.s true, boxZ qa121, boxX qb122 keyError kk.kind kk.n kk.s true, boxW qa111 1 0 ⟨#[]⟩, boxE qb112, boxZ qa101, boxV qB1 kk, heapR h (HD L), boxW qD2 4 1 ⟨#[]⟩, boxV q3 x]) [7, 0, 1, 2, 3, 4, 5, 6, 8, 9] (by show (List.range' 0 10).Perm [7, 0, 1, 2, 3, 4, 5, 6, 8, 9]; decide) (by rfl))
            refine named (boxX qb131 keyError kk.kind kk.n kk.s true :: boxZ qa121 :: boxX qb122 keyError kk.kind kk.n kk.s true :: boxW qa111 1 0 ⟨#[]⟩ :: boxE qb112 :: boxZ qa101 :: boxV qB1 kk :: boxW qD2 4 1 ⟨#[]⟩ :: boxV q3 x :: []) fun b21_58 hb21_58 => ?_
            have Hb21_58 := Lib.hid hb21_58
            have Kb21_58 : Hid (∀ W (Q : List Res), Sep w (Q ++ b21_58) W → True) := Lib.hid fun W Q T => by
              rw [hb21_58] at T
              trivial
            have Cb21_58_0 : Hid (∀ W (Q : List Res), Sep w (Q ++ b21_58) W → W.cell? ⟨q3, 0, none⟩ = some (.int .i64 x.kind) ∧ W.cell? ⟨q3, 1, none⟩ = some (.int .i64 x.n) ∧ W.cell? ⟨q3, 2, none⟩ = some (.string x.s)) := Lib.hid fun W Q T => by
              rw [hb21_58] at T
              have i0 := T.box (b := q3) (o := objV x) (Q.length + 8) (by rw [List.getElem?_append_right (by omega), Nat.add_sub_cancel_left]; rfl)
              exact ⟨cellAt i0 0 rfl, cellAt i0 1 rfl, cellAt i0 2 rfl⟩
            have Cb21_58_1 : Hid (∀ W (Q : List Res), Sep w (Q ++ b21_58) W → W.cell? ⟨qB1, 0, none⟩ = some (.int .i64 kk.kind) ∧ W.cell? ⟨qB1, 1, none⟩ = some (.int .i64 kk.n) ∧ W.cell? ⟨qB1, 2, none⟩ = some (.string kk.s)) := Lib.hid fun W Q T => by
              rw [hb21_58] at T
              have i0 := T.box (b := qB1) (o := objV kk) (Q.length + 6) (by rw [List.getElem?_append_right (by omega), Nat.add_sub_cancel_left]; rfl)
              exact ⟨cellAt i0 0 rfl, cellAt i0 1 rfl, cellAt i0 2 rfl⟩
            have Cb21_58_2 : Hid (∀ W (Q : List Res), Sep w (Q ++ b21_58) W → W.cell? ⟨qD2, 0, none⟩ = some (.int .i64 4) ∧ W.cell? ⟨qD2, 1, none⟩ = some (.int .i64 1) ∧ W.cell? ⟨qD2, 2, none⟩ = some (.string ⟨#[]⟩)) := Lib.hid fun W Q T => by
              rw [hb21_58] at T
              have i0 := T.box (b := qD2) (o := objW 4 1 ⟨#[]⟩) (Q.length + 7) (by rw [List.getElem?_append_right (by omega), Nat.add_sub_cancel_left]; rfl)
              exact ⟨cellAt i0 0 rfl, cellAt i0 1 rfl, cellAt i0 2 rfl⟩
            replace S := Lib.hid S
            clear hb21_58
            go_upto_region 21 with fail
            have S1 : Sep w ([heapR h (HD L)] ++ b21_58) (w58) := by rw [Hb21_58.out]; exact S.out
            clear S
            refine regionL (E := [emptyR, heapR h (HD L)]) (base := b21_58) (Sep.putE S1) ?_
            clear S1
            refine quietL ?_
            simp only [Act.put, pa]; try dsimp only [List.set]
            refine quietL (hy := fun E Wx hSw => by ((refine and3 (Cb21_58_2.out _ _ hSw) fun u0 u1 u2 => ?_); go_simp; exact ⟨rfl, hSw⟩)) (h := ?_)
            simp only [Act.put, pa]; try dsimp only [List.set]
            refine quietL (hy := fun E Wx hSw => by ((refine and3 (Cb21_58_1.out _ _ hSw) fun u0 u1 u2 => ?_); go_simp; exact ⟨rfl, hSw⟩)) (h := ?_)
            simp only [Act.put, pa]; try dsimp only [List.set]
            refine quietL (hy := fun E Wx hSw => by ((refine and3 (Cb21_58_0.out _ _ hSw) fun u0 u1 u2 => ?_); go_simp; exact ⟨rfl, hSw⟩)) (h := ?_)
            simp only [Act.put, pa]; try dsimp only [List.set]
            refine detL (excZ) [emptyR, heapR h (HD (putL L kk x))] (h1 := fun Wx hSw => by (go_simp; refine symCall ?_; exact d_put hSw 1 rfl HLB.out kk x HKK.out)) (h2 := ?_)
            simp only [Act.put, pa]; try dsimp only [List.set]
            refine allocL 0 rfl (fun q => .pointer (some ⟨q, 0, none⟩)) (.cells #[.string ⟨#[]⟩, .int .i64 0, .int .i64 0, .string ⟨#[]⟩, .bool false] 38) (h1 := fun Wx => by go_simp) (h2 := fun qb212 => ?_)
            simp only [Act.put, pa]; try dsimp only [List.set]
            try simp only [List.set_cons_zero, List.set_cons_succ]
            refine detL undef [boxE qb212, heapR h (HD (putL L kk x))] (h1 := fun Wx hSw => by (have hz := hSw.box (b := qb212) (o := objE) 0 rfl; refine useZ5 hz fun z0 z1 z2 z3 z4 y0 y1 y2 y3 y4 => ?_; go_simp; exact ⟨rfl, hSw.set5 0 rfl (.string ⟨#[]⟩) (.int .i64 0) (.int .i64 0) (.string ⟨#[]⟩) (.bool false)⟩)) (h2 := ?_)
            simp only [Act.put, pa]; try dsimp only [List.set]
            intro w60 S
            replace S : Sep w (boxE qb212 :: heapR h (HD (putL L kk x)) :: boxX qb131 keyError kk.kind kk.n kk.s true :: boxZ qa121 :: boxX qb122 keyError kk.kind kk.n kk.s true :: boxW qa111 1 0 ⟨#[]⟩ :: boxE qb112 :: boxZ qa101 :: boxV qB1 kk :: boxW qD2 4 1 ⟨#[]⟩ :: boxV q3 x :: []) w60 := by rw [Hb21_58.out] at S; exact S
            clear Hb21_58 Kb21_58 Cb21_58_0 Cb21_58_1 Cb21_58_2
            have HG2 : Hid (getL (putL L kk x) kk = some x) := Lib.hid (by rw [getL_putL, if_pos rfl])
            refine named (boxE qb212 :: heapR h (HD (putL L kk x)) :: boxX qb131 keyError kk.kind kk.n kk.s true :: boxZ qa121 :: boxX qb122 keyError kk.kind kk.n kk.s true :: boxW qa111 1 0 ⟨#[]⟩ :: boxE qb112 :: boxZ qa101 :: boxV qB1 kk :: boxW qD2 4 1 ⟨#[]⟩ :: boxV q3 x :: []) fun b22_60 hb22_60 => ?_
            have Hb22_60 := Lib.hid hb22_60
            have Kb22_60 : Hid (∀ W (Q : List Res), Sep w (Q ++ b22_60) W → True) := Lib.hid fun W Q T => by
              rw [hb22_60] at T
              trivial
            have Cb22_60_0 : Hid (∀ W (Q : List Res), Sep w (Q ++ b22_60) W → W.cell? ⟨qB1, 0, none⟩ = some (.int .i64 kk.kind) ∧ W.cell? ⟨qB1, 1, none⟩ = some (.int .i64 kk.n) ∧ W.cell? ⟨qB1, 2, none⟩ = some (.string kk.s)) := Lib.hid fun W Q T => by
              rw [hb22_60] at T
              have i0 := T.box (b := qB1) (o := objV kk) (Q.length + 8) (by rw [List.getElem?_append_right (by omega), Nat.add_sub_cancel_left]; rfl)
              exact ⟨cellAt i0 0 rfl, cellAt i0 1 rfl, cellAt i0 2 rfl⟩
            have Cb22_60_1 : Hid (∀ W (Q : List Res), Sep w (Q ++ b22_60) W → W.cell? ⟨qD2, 0, none⟩ = some (.int .i64 4) ∧ W.cell? ⟨qD2, 1, none⟩ = some (.int .i64 1) ∧ W.cell? ⟨qD2, 2, none⟩ = some (.string ⟨#[]⟩)) := Lib.hid fun W Q T => by
              rw [hb22_60] at T
              have i0 := T.box (b := qD2) (o := objW 4 1 ⟨#[]⟩) (Q.length + 9) (by rw [List.getElem?_append_right (by omega), Nat.add_sub_cancel_left]; rfl)
              exact ⟨cellAt i0 0 rfl, cellAt i0 1 rfl, cellAt i0 2 rfl⟩
            have K22_3 : Hid (∀ W (Q : List Res), Sep w (Q ++ b22_60) W → Calls Tryz.prog 34 #[.pointer (some ⟨h, 0, none⟩), .agg #[.int .i64 4, .int .i64 1, .string ⟨#[]⟩], .agg #[.int .i64 kk.kind, .int .i64 kk.n, .string kk.s]] W fun e W' => e = .returned (.tuple #[.agg #[.int .i64 x.kind, .int .i64 x.n, .string x.s], excZ]) ∧ Sep w (Q ++ b22_60) W') := Lib.hid fun W Q T => by
              rw [Hb22_60.out] at T ⊢
              exact d_idx T (Q.length + 1) (by rw [List.getElem?_append_right (by omega), Nat.add_sub_cancel_left]; rfl) kk x HKK.out HG2.out
            replace S := Lib.hid S
            clear hb22_60
            go_upto_region 22 with fail
            have S1 : Sep w ([] ++ b22_60) (w60) := by rw [Hb22_60.out]; exact S.out
            clear S
            refine regionL (E := [emptyR, emptyR]) (base := b22_60) (Sep.putE (Sep.putE S1)) ?_
            clear S1
            refine quietL ?_
            simp only [Act.put, pa]; try dsimp only [List.set]
            refine quietL (hy := fun E Wx hSw => by ((refine and3 (Cb22_60_1.out _ _ hSw) fun u0 u1 u2 => ?_); go_simp; exact ⟨rfl, hSw⟩)) (h := ?_)
            simp only [Act.put, pa]; try dsimp only [List.set]
            refine quietL (hy := fun E Wx hSw => by ((refine and3 (Cb22_60_0.out _ _ hSw) fun u0 u1 u2 => ?_); go_simp; exact ⟨rfl, hSw⟩)) (h := ?_)
            simp only [Act.put, pa]; try dsimp only [List.set]
            refine quietL (hy := fun E Wx hSw => by (go_simp; exact symCall (K22_3.out _ _ hSw))) (h := ?_)
            simp only [Act.put, pa]; try dsimp only [List.set]
            iterate 3 (refine quietL ?_; simp only [Act.put, pa]; try dsimp only [List.set])
            refine allocL 0 rfl (fun q => .pointer (some ⟨q, 0, none⟩)) (.cells #[.int .i64 0, .int .i64 0, .string ⟨#[]⟩] 29) (h1 := fun Wx => by go_simp) (h2 := fun qa221 => ?_)
            simp only [Act.put, pa]; try dsimp only [List.set]
            try simp only [List.set_cons_zero, List.set_cons_succ]
            refine allocL 1 rfl (fun q => .pointer (some ⟨q, 0, none⟩)) (.cells #[.string ⟨#[]⟩, .int .i64 0, .int .i64 0, .string ⟨#[]⟩, .bool false] 38) (h1 := fun Wx => by go_simp) (h2 := fun qb222 => ?_)
            simp only [Act.put, pa]; try dsimp only [List.set]
            try simp only [List.set_cons_zero, List.set_cons_succ]
            refine detL undef [boxV qa221 x, boxE qb222] (h1 := fun Wx hSw => by (have hz := hSw.box (b := qa221) (o := objZ) 0 rfl; refine useZ3 hz fun z0 z1 z2 y0 y1 y2 => ?_; go_simp; exact ⟨rfl, hSw.set3 0 rfl (.int .i64 x.kind) (.int .i64 x.n) (.string x.s)⟩)) (h2 := ?_)
            simp only [Act.put, pa]; try dsimp only [List.set]
            refine detL undef [boxV qa221 x, boxE qb222] (h1 := fun Wx hSw => by (have hz := hSw.box (b := qb222) (o := objE) 1 rfl; refine useZ5 hz fun z0 z1 z2 z3 z4 y0 y1 y2 y3 y4 => ?_; go_simp; exact ⟨rfl, hSw.set5 1 rfl (.string ⟨#[]⟩) (.int .i64 0) (.int .i64 0) (.string ⟨#[]⟩) (.bool false)⟩)) (h2 := ?_)
            simp only [Act.put, pa]; try dsimp only [List.set]
            intro w62 S
            replace S : Sep w (boxV qa221 x :: boxE qb222 :: boxE qb212 :: heapR h (HD (putL L kk x)) :: boxX qb131 keyError kk.kind kk.n kk.s true :: boxZ qa121 :: boxX qb122 keyError kk.kind kk.n kk.s true :: boxW qa111 1 0 ⟨#[]⟩ :: boxE qb112 :: boxZ qa101 :: boxV qB1 kk :: boxW qD2 4 1 ⟨#[]⟩ :: boxV q3 x :: []) w62 := by rw [Hb22_60.out] at S; exact S
            clear Hb22_60 Kb22_60 K22_3 Cb22_60_0 Cb22_60_1
            refine named (boxV qa221 x :: boxE qb222 :: boxE qb212 :: heapR h (HD (putL L kk x)) :: boxX qb131 keyError kk.kind kk.n kk.s true :: boxZ qa121 :: boxX qb122 keyError kk.kind kk.n kk.s true :: boxW qa111 1 0 ⟨#[]⟩ :: boxE qb112 :: boxZ qa101 :: boxV qB1 kk :: boxW qD2 4 1 ⟨#[]⟩ :: boxV q3 x :: []) fun b23_62 hb23_62 => ?_
            have Hb23_62 := Lib.hid hb23_62
            have Kb23_62 : Hid (∀ W (Q : List Res), Sep w (Q ++ b23_62) W → True) := Lib.hid fun W Q T => by
              rw [hb23_62] at T
              trivial
            have Cb23_62_0 : Hid (∀ W (Q : List Res), Sep w (Q ++ b23_62) W → W.cell? ⟨q3, 0, none⟩ = some (.int .i64 x.kind) ∧ W.cell? ⟨q3, 1, none⟩ = some (.int .i64 x.n) ∧ W.cell? ⟨q3, 2, none⟩ = some (.string x.s)) := Lib.hid fun W Q T => by
              rw [hb23_62] at T
              have i0 := T.box (b := q3) (o := objV x) (Q.length + 12) (by rw [List.getElem?_append_right (by omega), Nat.add_sub_cancel_left]; rfl)
              exact ⟨cellAt i0 0 rfl, cellAt i0 1 rfl, cellAt i0 2 rfl⟩
            have Cb23_62_1 : Hid (∀ W (Q : List Res), Sep w (Q ++ b23_62) W → W.cell? ⟨qa221, 0, none⟩ = some (.int .i64 x.kind) ∧ W.cell? ⟨qa221, 1, none⟩ = some (.int .i64 x.n) ∧ W.cell? ⟨qa221, 2, none⟩ = some (.string x.s)) := Lib.hid fun W Q T => by
              rw [hb23_62] at T
              have i0 := T.box (b := qa221) (o := objV x) (Q.length + 0) (by rw [List.getElem?_append_right (by omega), Nat.add_sub_cancel_left]; rfl)
              exact ⟨cellAt i0 0 rfl, cellAt i0 1 rfl, cellAt i0 2 rfl⟩
            have Cb23_62_2 : Hid (∀ W (Q : List Res), Sep w (Q ++ b23_62) W → W.cell? ⟨qb212, 0, none⟩ = some (.string ⟨#[]⟩) ∧ W.cell? ⟨qb212, 1, none⟩ = some (.int .i64 0) ∧ W.cell? ⟨qb212, 2, none⟩ = some (.int .i64 0) ∧ W.cell? ⟨qb212, 3, none⟩ = some (.string ⟨#[]⟩) ∧ W.cell? ⟨qb212, 4, none⟩ = some (.bool false)) := Lib.hid fun W Q T => by
              rw [hb23_62] at T
              have i0 := T.box (b := qb212) (o := objE) (Q.length + 2) (by rw [List.getElem?_append_right (by omega), Nat.add_sub_cancel_left]; rfl)
              exact ⟨cellAt i0 0 rfl, cellAt i0 1 rfl, cellAt i0 2 rfl, cellAt i0 3 rfl, cellAt i0 4 rfl⟩
            have Cb23_62_3 : Hid (∀ W (Q : List Res), Sep w (Q ++ b23_62) W → W.cell? ⟨qb222, 0, none⟩ = some (.string ⟨#[]⟩) ∧ W.cell? ⟨qb222, 1, none⟩ = some (.int .i64 0) ∧ W.cell? ⟨qb222, 2, none⟩ = some (.int .i64 0) ∧ W.cell? ⟨qb222, 3, none⟩ = some (.string ⟨#[]⟩) ∧ W.cell? ⟨qb222, 4, none⟩ = some (.bool false)) := Lib.hid fun W Q T => by
              rw [hb23_62] at T
              have i0 := T.box (b := qb222) (o := objE) (Q.length + 1) (by rw [List.getElem?_append_right (by omega), Nat.add_sub_cancel_left]; rfl)
              exact ⟨cellAt i0 0 rfl, cellAt i0 1 rfl, cellAt i0 2 rfl, cellAt i0 3 rfl, cellAt i0 4 rfl⟩
            have K23_1 : Hid (∀ W (Q : List Res), Sep w (Q ++ b23_62) W → Calls Tryz.prog 19 #[excZ] W fun e W' => e = .returned (.bool true) ∧ Sep w (Q ++ b23_62) W') := Lib.hid fun W Q T => by
              exact (none_z W).mono fun e W' ⟨e1, e2⟩ => ⟨e1, T.later e2⟩
            have K23_5 : Hid (∀ W (Q : List Res), Sep w (Q ++ b23_62) W → Calls Tryz.prog 19 #[excZ] W fun e W' => e = .returned (.bool true) ∧ Sep w (Q ++ b23_62) W') := Lib.hid fun W Q T => by
              exact (none_z W).mono fun e W' ⟨e1, e2⟩ => ⟨e1, T.later e2⟩
            replace S := Lib.hid S
            clear hb23_62
            go_upto_region 23 with fail
            have S1 : Sep w ([] ++ b23_62) (w62) := by rw [Hb23_62.out]; exact S.out
            clear S
            refine regionL (E := []) (base := b23_62) S1 ?_
            clear S1
            refine quietL (hy := fun E Wx hSw => by ((refine and5 (Cb23_62_2.out _ _ hSw) fun u0 u1 u2 u3 u4 => ?_); go_simp; exact ⟨rfl, hSw⟩)) (h := ?_)
            simp only [Act.put, pa]; try dsimp only [List.set]
            refine quietL (hy := fun E Wx hSw => by (go_simp; exact symCall (K23_1.out _ _ hSw))) (h := ?_)
            simp only [Act.put, pa]; try dsimp only [List.set]
            iterate 2 (refine quietL ?_; simp only [Act.put, pa]; try dsimp only [List.set])
            refine quietL (hy := fun E Wx hSw => by ((refine and5 (Cb23_62_3.out _ _ hSw) fun u0 u1 u2 u3 u4 => ?_); go_simp; exact ⟨rfl, hSw⟩)) (h := ?_)
            simp only [Act.put, pa]; try dsimp only [List.set]
            refine quietL (hy := fun E Wx hSw => by (go_simp; exact symCall (K23_5.out _ _ hSw))) (h := ?_)
            simp only [Act.put, pa]; try dsimp only [List.set]
            iterate 3 (refine quietL ?_; simp only [Act.put, pa]; try dsimp only [List.set])
            refine quietL (hy := fun E Wx hSw => by ((refine and3 (Cb23_62_1.out _ _ hSw) fun u0 u1 u2 => ?_); go_simp; exact ⟨rfl, hSw⟩)) (h := ?_)
            simp only [Act.put, pa]; try dsimp only [List.set]
            refine quietL (hy := fun E Wx hSw => by ((refine and3 (Cb23_62_0.out _ _ hSw) fun u0 u1 u2 => ?_); go_simp; exact ⟨rfl, hSw⟩)) (h := ?_)
            simp only [Act.put, pa]; try dsimp only [List.set]
            iterate 2 (refine quietL ?_; simp only [Act.put, pa]; try dsimp only [List.set])
            intro w64 S
            replace S : Sep w (boxV qa221 x :: boxE qb222 :: boxE qb212 :: heapR h (HD (putL L kk x)) :: boxX qb131 keyError kk.kind kk.n kk.s true :: boxZ qa121 :: boxX qb122 keyError kk.kind kk.n kk.s true :: boxW qa111 1 0 ⟨#[]⟩ :: boxE qb112 :: boxZ qa101 :: boxV qB1 kk :: boxW qD2 4 1 ⟨#[]⟩ :: boxV q3 x :: []) w64 := by rw [Hb23_62.out] at S; exact S
            clear Hb23_62 Kb23_62 K23_1 K23_5 Cb23_62_0 Cb23_62_1 Cb23_62_2 Cb23_62_3
            replace S : Sep w ([boxV qa221 x, boxE qb222, boxE qb212, boxX qb131 keyError kk.kind kk.n kk.s true, boxZ qa121, boxX qb122 keyError kk.kind kk.n kk.s true, boxW qa111 1 0 ⟨#[]⟩, boxE qb112, boxZ qa101, boxV qB1 kk, heapR h (HD (putL L kk x)), boxW qD2 4 1 ⟨#[]⟩, boxV q3 x] ++ []) (w64) := by
              refine (show Sep w ([boxV qa221 x, boxE qb222, boxE qb212, heapR h (HD (putL L kk x)), boxX qb131 keyError kk.kind kk.n kk.s true, boxZ qa121, boxX qb122 keyError kk.kind kk.n kk.s true, boxW qa111 1 0 ⟨#[]⟩, boxE qb112, boxZ qa101, boxV qB1 kk, boxW qD2 4 1 ⟨#[]⟩, boxV q3 x] ++ []) _ from S).perm ?_
              exact List.Perm.append_right [] (perm_of (l := [boxV qa221 x, boxE qb222, boxE qb212, heapR h (HD (putL L kk x)), boxX qb131 keyError kk.kind kk.n kk.s true, boxZ qa121, boxX qb122 keyError kk.kind kk.n kk.s true, boxW qa111 1 0 ⟨#[]⟩, boxE qb112, boxZ qa101, boxV qB1 kk, boxW qD2 4 1 ⟨#[]⟩, boxV q3 x]) [0, 1, 2, 4, 5, 6, 7, 8, 9, 10, 3, 11, 12] (by show (List.range' 0 13).Perm [0, 1, 2, 4, 5, 6, 7, 8, 9, 10, 3, 11, 12]; decide) (by rfl))
            iterate 10 replace S := S.tail
            replace S : Sep w (heapR h (HD (putL L kk x)) :: boxW qD2 4 1 ⟨#[]⟩ :: boxV q3 x :: []) (w64) := S
            replace S := Lib.hid S
            go_wp2
            exact ⟨⟨k + 1, (putL L kk x), by have := hc1; omega, by omega, by go_num, (Nat.le_trans putL_len (by have := HL.out; omega)), S.out⟩, by simp [intOf]; omega⟩
      | some y => as_aux_lemma =>
        have HG := Lib.hid hg
        clear hg
        refine named (boxV qB1 kk :: heapR h (HD L) :: boxW qD2 4 1 ⟨#[]⟩ :: boxV q3 x :: []) fun b10_106 hb10_106 => ?_
        have Hb10_106 := Lib.hid hb10_106
        have Kb10_106 : Hid (∀ W (Q : List Res), Sep w (Q ++ b10_106) W → True) := Lib.hid fun W Q T => by
          rw [hb10_106] at T
          trivial
        have Cb10_106_0 : Hid (∀ W (Q : List Res), Sep w (Q ++ b10_106) W → W.cell? ⟨qB1, 0, none⟩ = some (.int .i64 kk.kind) ∧ W.cell? ⟨qB1, 1, none⟩ = some (.int .i64 kk.n) ∧ W.cell? ⟨qB1, 2, none⟩ = some (.string kk.s)) := Lib.hid fun W Q T => by
          rw [hb10_106] at T
          have i0 := T.box (b := qB1) (o := objV kk) (Q.length + 0) (by rw [List.getElem?_append_right (by omega), Nat.add_sub_cancel_left]; rfl)
          exact ⟨cellAt i0 0 rfl, cellAt i0 1 rfl, cellAt i0 2 rfl⟩
        have Cb10_106_1 : Hid (∀ W (Q : List Res), Sep w (Q ++ b10_106) W → W.cell? ⟨qD2, 0, none⟩ = some (.int .i64 4) ∧ W.cell? ⟨qD2, 1, none⟩ = some (.int .i64 1) ∧ W.cell? ⟨qD2, 2, none⟩ = some (.string ⟨#[]⟩)) := Lib.hid fun W Q T => by
          rw [hb10_106] at T
          have i0 := T.box (b := qD2) (o := objW 4 1 ⟨#[]⟩) (Q.length + 2) (by rw [List.getElem?_append_right (by omega), Nat.add_sub_cancel_left]; rfl)
          exact ⟨cellAt i0 0 rfl, cellAt i0 1 rfl, cellAt i0 2 rfl⟩
        have K10_3 : Hid (∀ W (Q : List Res), Sep w (Q ++ b10_106) W → Calls Tryz.prog 43 #[.pointer (some ⟨h, 0, none⟩), .agg #[.int .i64 4, .int .i64 1, .string ⟨#[]⟩], .agg #[.int .i64 kk.kind, .int .i64 kk.n, .string kk.s]] W fun e W' => e = .returned (.tuple #[.agg #[.int .i64 y.kind, .int .i64 y.n, .string y.s], .bool true]) ∧ Sep w (Q ++ b10_106) W') := Lib.hid fun W Q T => by
          rw [Hb10_106.out] at T ⊢
          exact d_get T (Q.length + 1) (by rw [List.getElem?_append_right (by omega), Nat.add_sub_cancel_left]; rfl) kk y HG.out
        replace S := Lib.hid S
        clear hb10_106
        go_upto_region 10 with fail
        have S1 : Sep w ([] ++ b10_106) (w6) := by rw [Hb10_106.out]; exact S.out
        clear S
        refine regionL (E := [emptyR]) (base := b10_106) (Sep.putE S1) ?_
        clear S1
        refine quietL ?_
        simp only [Act.put, pa]; try dsimp only [List.set]
        refine quietL (hy := fun E Wx hSw => by ((refine and3 (Cb10_106_1.out _ _ hSw) fun u0 u1 u2 => ?_); go_simp; exact ⟨rfl, hSw⟩)) (h := ?_)
        simp only [Act.put, pa]; try dsimp only [List.set]
        refine quietL (hy := fun E Wx hSw => by ((refine and3 (Cb10_106_0.out _ _ hSw) fun u0 u1 u2 => ?_); go_simp; exact ⟨rfl, hSw⟩)) (h := ?_)
        simp only [Act.put, pa]; try dsimp only [List.set]
        refine quietL (hy := fun E Wx hSw => by (go_simp; exact symCall (K10_3.out _ _ hSw))) (h := ?_)
        simp only [Act.put, pa]; try dsimp only [List.set]
        iterate 3 (refine quietL ?_; simp only [Act.put, pa]; try dsimp only [List.set])
        refine allocL 0 rfl (fun q => .pointer (some ⟨q, 0, none⟩)) (.cells #[.int .i64 0, .int .i64 0, .string ⟨#[]⟩] 29) (h1 := fun Wx => by go_simp) (h2 := fun qa101 => ?_)
        simp only [Act.put, pa]; try dsimp only [List.set]
        try simp only [List.set_cons_zero, List.set_cons_succ]
        refine detL undef [boxV qa101 y] (h1 := fun Wx hSw => by (have hz := hSw.box (b := qa101) (o := objZ) 0 rfl; refine useZ3 hz fun z0 z1 z2 y0 y1 y2 => ?_; go_simp; exact ⟨rfl, hSw.set3 0 rfl (.int .i64 y.kind) (.int .i64 y.n) (.string y.s)⟩)) (h2 := ?_)
        simp only [Act.put, pa]; try dsimp only [List.set]
        refine quietL ?_
        simp only [Act.put, pa]; try dsimp only [List.set]
        intro w108 S
        replace S : Sep w (boxV qa101 y :: boxV qB1 kk :: heapR h (HD L) :: boxW qD2 4 1 ⟨#[]⟩ :: boxV q3 x :: []) w108 := by rw [Hb10_106.out] at S; exact S
        clear Hb10_106 Kb10_106 K10_3 Cb10_106_0 Cb10_106_1
        refine named (boxV qa101 y :: boxV qB1 kk :: heapR h (HD L) :: boxW qD2 4 1 ⟨#[]⟩ :: boxV q3 x :: []) fun b11_108 hb11_108 => ?_
        have Hb11_108 := Lib.hid hb11_108
        have Kb11_108 : Hid (∀ W (Q : List Res), Sep w (Q ++ b11_108) W → True) := Lib.hid fun W Q T => by
          rw [hb11_108] at T
          trivial
        have Cb11_108_0 : Hid (∀ W (Q : List Res), Sep w (Q ++ b11_108) W → W.cell? ⟨qB1, 0, none⟩ = some (.int .i64 kk.kind) ∧ W.cell? ⟨qB1, 1, none⟩ = some (.int .i64 kk.n) ∧ W.cell? ⟨qB1, 2, none⟩ = some (.string kk.s)) := Lib.hid fun W Q T => by
          rw [hb11_108] at T
          have i0 := T.box (b := qB1) (o := objV kk) (Q.length + 1) (by rw [List.getElem?_append_right (by omega), Nat.add_sub_cancel_left]; rfl)
          exact ⟨cellAt i0 0 rfl, cellAt i0 1 rfl, cellAt i0 2 rfl⟩
        have Cb11_108_1 : Hid (∀ W (Q : List Res), Sep w (Q ++ b11_108) W → W.cell? ⟨qD2, 0, none⟩ = some (.int .i64 4) ∧ W.cell? ⟨qD2, 1, none⟩ = some (.int .i64 1) ∧ W.cell? ⟨qD2, 2, none⟩ = some (.string ⟨#[]⟩)) := Lib.hid fun W Q T => by
          rw [hb11_108] at T
          have i0 := T.box (b := qD2) (o := objW 4 1 ⟨#[]⟩) (Q.length + 3) (by rw [List.getElem?_append_right (by omega), Nat.add_sub_cancel_left]; rfl)
          exact ⟨cellAt i0 0 rfl, cellAt i0 1 rfl, cellAt i0 2 rfl⟩
        have K11_3 : Hid (∀ W (Q : List Res), Sep w (Q ++ b11_108) W → Calls Tryz.prog 18 #[.pointer (some ⟨h, 0, none⟩), .string ⟨#[105, 110]⟩, .agg #[.int .i64 kk.kind, .int .i64 kk.n, .string kk.s], .agg #[.int .i64 4, .int .i64 1, .string ⟨#[]⟩]] W fun e W' => e = .returned (.tuple #[.agg #[.int .i64 1, .int .i64 1, .string ⟨#[]⟩], excZ]) ∧ Sep w (Q ++ b11_108) W') := Lib.hid fun W Q T => by
          rw [Hb11_108.out] at T ⊢
          exact d_in T (Q.length + 2) (by rw [List.getElem?_append_right (by omega), Nat.add_sub_cancel_left]; rfl) kk y HKK.out HG.out
        replace S := Lib.hid S
        clear hb11_108
        go_upto_region 11 with fail
        have S1 : Sep w ([] ++ b11_108) (w108) := by rw [Hb11_108.out]; exact S.out
        clear S
        refine regionL (E := [emptyR, emptyR]) (base := b11_108) (Sep.putE (Sep.putE S1)) ?_
        clear S1
        refine quietL ?_
        simp only [Act.put, pa]; try dsimp only [List.set]
        refine quietL (hy := fun E Wx hSw => by ((refine and3 (Cb11_108_0.out _ _ hSw) fun u0 u1 u2 => ?_); go_simp; exact ⟨rfl, hSw⟩)) (h := ?_)
        simp only [Act.put, pa]; try dsimp only [List.set]
        refine quietL (hy := fun E Wx hSw => by ((refine and3 (Cb11_108_1.out _ _ hSw) fun u0 u1 u2 => ?_); go_simp; exact ⟨rfl, hSw⟩)) (h := ?_)
        simp only [Act.put, pa]; try dsimp only [List.set]
        refine quietL (hy := fun E Wx hSw => by (go_simp; exact symCall (K11_3.out _ _ hSw))) (h := ?_)
        simp only [Act.put, pa]; try dsimp only [List.set]
        iterate 3 (refine quietL ?_; simp only [Act.put, pa]; try dsimp only [List.set])
        refine allocL 0 rfl (fun q => .pointer (some ⟨q, 0, none⟩)) (.cells #[.int .i64 0, .int .i64 0, .string ⟨#[]⟩] 29) (h1 := fun Wx => by go_simp) (h2 := fun qa111 => ?_)
        simp only [Act.put, pa]; try dsimp only [List.set]
        try simp only [List.set_cons_zero, List.set_cons_succ]
        refine allocL 1 rfl (fun q => .pointer (some ⟨q, 0, none⟩)) (.cells #[.string ⟨#[]⟩, .int .i64 0, .int .i64 0, .string ⟨#[]⟩, .bool false] 38) (h1 := fun Wx => by go_simp) (h2 := fun qb112 => ?_)
        simp only [Act.put, pa]; try dsimp only [List.set]
        try simp only [List.set_cons_zero, List.set_cons_succ]
        refine detL undef [boxW qa111 1 1 ⟨#[]⟩, boxE qb112] (h1 := fun Wx hSw => by (have hz := hSw.box (b := qa111) (o := objZ) 0 rfl; refine useZ3 hz fun z0 z1 z2 y0 y1 y2 => ?_; go_simp; exact ⟨rfl, hSw.set3 0 rfl (.int .i64 1) (.int .i64 1) (.string ⟨#[]⟩)⟩)) (h2 := ?_)
        simp only [Act.put, pa]; try dsimp only [List.set]
        refine detL undef [boxW qa111 1 1 ⟨#[]⟩, boxE qb112] (h1 := fun Wx hSw => by (have hz := hSw.box (b := qb112) (o := objE) 1 rfl; refine useZ5 hz fun z0 z1 z2 z3 z4 y0 y1 y2 y3 y4 => ?_; go_simp; exact ⟨rfl, hSw.set5 1 rfl (.string ⟨#[]⟩) (.int .i64 0) (.int .i64 0) (.string ⟨#[]⟩) (.bool false)⟩)) (h2 := ?_)
        simp only [Act.put, pa]; try dsimp only [List.set]
        intro w110 S
        replace S : Sep w (boxW qa111 1 1 ⟨#[]⟩ :: boxE qb112 :: boxV qa101 y :: boxV qB1 kk :: heapR h (HD L) :: boxW qD2 4 1 ⟨#[]⟩ :: boxV q3 x :: []) w110 := by rw [Hb11_108.out] at S; exact S
        clear Hb11_108 Kb11_108 K11_3 Cb11_108_0 Cb11_108_1
        refine named (boxW qa111 1 1 ⟨#[]⟩ :: boxE qb112 :: boxV qa101 y :: boxV qB1 kk :: heapR h (HD L) :: boxW qD2 4 1 ⟨#[]⟩ :: boxV q3 x :: []) fun b12_110 hb12_110 => ?_
        have Hb12_110 := Lib.hid hb12_110
        have Kb12_110 : Hid (∀ W (Q : List Res), Sep w (Q ++ b12_110) W → True) := Lib.hid fun W Q T => by
          rw [hb12_110] at T
          trivial
        have Cb12_110_0 : Hid (∀ W (Q : List Res), Sep w (Q ++ b12_110) W → W.cell? ⟨qB1, 0, none⟩ = some (.int .i64 kk.kind) ∧ W.cell? ⟨qB1, 1, none⟩ = some (.int .i64 kk.n) ∧ W.cell? ⟨qB1, 2, none⟩ = some (.string kk.s)) := Lib.hid fun W Q T => by
          rw [hb12_110] at T
          have i0 := T.box (b := qB1) (o := objV kk) (Q.length + 3) (by rw [List.getElem?_append_right (by omega), Nat.add_sub_cancel_left]; rfl)
          exact ⟨cellAt i0 0 rfl, cellAt i0 1 rfl, cellAt i0 2 rfl⟩
        have Cb12_110_1 : Hid (∀ W (Q : List Res), Sep w (Q ++ b12_110) W → W.cell? ⟨qD2, 0, none⟩ = some (.int .i64 4) ∧ W.cell? ⟨qD2, 1, none⟩ = some (.int .i64 1) ∧ W.cell? ⟨qD2, 2, none⟩ = some (.string ⟨#[]⟩)) := Lib.hid fun W Q T => by
          rw [hb12_110] at T
          have i0 := T.box (b := qD2) (o := objW 4 1 ⟨#[]⟩) (Q.length + 5) (by rw [List.getElem?_append_right (by omega), Nat.add_sub_cancel_left]; rfl)
          exact ⟨cellAt i0 0 rfl, cellAt i0 1 rfl, cellAt i0 2 rfl⟩
        have K12_3 : Hid (∀ W (Q : List Res), Sep w (Q ++ b12_110) W → Calls Tryz.prog 34 #[.pointer (some ⟨h, 0, none⟩), .agg #[.int .i64 4, .int .i64 1, .string ⟨#[]⟩], .agg #[.int .i64 kk.kind, .int .i64 kk.n, .string kk.s]] W fun e W' => e = .returned (.tuple #[.agg #[.int .i64 y.kind, .int .i64 y.n, .string y.s], excZ]) ∧ Sep w (Q ++ b12_110) W') := Lib.hid fun W Q T => by
          rw [Hb12_110.out] at T ⊢
          exact d_idx T (Q.length + 4) (by rw [List.getElem?_append_right (by omega), Nat.add_sub_cancel_left]; rfl) kk y HKK.out HG.out
        replace S := Lib.hid S
        clear hb12_110
        go_upto_region 12 with fail
        have S1 : Sep w ([] ++ b12_110) (w110) := by rw [Hb12_110.out]; exact S.out
        clear S
        refine regionL (E := [emptyR, emptyR]) (base := b12_110) (Sep.putE (Sep.putE S1)) ?_
        clear S1
        refine quietL ?_
        simp only [Act.put, pa]; try dsimp only [List.set]
        refine quietL (hy := fun E Wx hSw => by ((refine and3 (Cb12_110_1.out _ _ hSw) fun u0 u1 u2 => ?_); go_simp; exact ⟨rfl, hSw⟩)) (h := ?_)
        simp only [Act.put, pa]; try dsimp only [List.set]
        refine quietL (hy := fun E Wx hSw => by ((refine and3 (Cb12_110_0.out _ _ hSw) fun u0 u1 u2 => ?_); go_simp; exact ⟨rfl, hSw⟩)) (h := ?_)
        simp only [Act.put, pa]; try dsimp only [List.set]
        refine quietL (hy := fun E Wx hSw => by (go_simp; exact symCall (K12_3.out _ _ hSw))) (h := ?_)
        simp only [Act.put, pa]; try dsimp only [List.set]
        iterate 3 (refine quietL ?_; simp only [Act.put, pa]; try dsimp only [List.set])
        refine allocL 0 rfl (fun q => .pointer (some ⟨q, 0, none⟩)) (.cells #[.int .i64 0, .int .i64 0, .string ⟨#[]⟩] 29) (h1 := fun Wx => by go_simp) (h2 := fun qa121 => ?_)
        simp only [Act.put, pa]; try dsimp only [List.set]
        try simp only [List.set_cons_zero, List.set_cons_succ]
        refine allocL 1 rfl (fun q => .pointer (some ⟨q, 0, none⟩)) (.cells #[.string ⟨#[]⟩, .int .i64 0, .int .i64 0, .string ⟨#[]⟩, .bool false] 38) (h1 := fun Wx => by go_simp) (h2 := fun qb122 => ?_)
        simp only [Act.put, pa]; try dsimp only [List.set]
        try simp only [List.set_cons_zero, List.set_cons_succ]
        refine detL undef [boxV qa121 y, boxE qb122] (h1 := fun Wx hSw => by (have hz := hSw.box (b := qa121) (o := objZ) 0 rfl; refine useZ3 hz fun z0 z1 z2 y0 y1 y2 => ?_; go_simp; exact ⟨rfl, hSw.set3 0 rfl (.int .i64 y.kind) (.int .i64 y.n) (.string y.s)⟩)) (h2 := ?_)
        simp only [Act.put, pa]; try dsimp only [List.set]
        refine detL undef [boxV qa121 y, boxE qb122] (h1 := fun Wx hSw => by (have hz := hSw.box (b := qb122) (o := objE) 1 rfl; refine useZ5 hz fun z0 z1 z2 z3 z4 y0 y1 y2 y3 y4 => ?_; go_simp; exact ⟨rfl, hSw.set5 1 rfl (.string ⟨#[]⟩) (.int .i64 0) (.int .i64 0) (.string ⟨#[]⟩) (.bool false)⟩)) (h2 := ?_)
        simp only [Act.put, pa]; try dsimp only [List.set]
        intro w112 S
        replace S : Sep w (boxV qa121 y :: boxE qb122 :: boxW qa111 1 1 ⟨#[]⟩ :: boxE qb112 :: boxV qa101 y :: boxV qB1 kk :: heapR h (HD L) :: boxW qD2 4 1 ⟨#[]⟩ :: boxV q3 x :: []) w112 := by rw [Hb12_110.out] at S; exact S
        clear Hb12_110 Kb12_110 K12_3 Cb12_110_0 Cb12_110_1
        refine named (boxV qa121 y :: boxE qb122 :: boxW qa111 1 1 ⟨#[]⟩ :: boxE qb112 :: boxV qa101 y :: boxV qB1 kk :: heapR h (HD L) :: boxW qD2 4 1 ⟨#[]⟩ :: boxV q3 x :: []) fun b13_112 hb13_112 => ?_
        have Hb13_112 := Lib.hid hb13_112
        have Kb13_112 : Hid (∀ W (Q : List Res), Sep w (Q ++ b13_112) W → True) := Lib.hid fun W Q T => by
          rw [hb13_112] at T
          trivial
        have Cb13_112_0 : Hid (∀ W (Q : List Res), Sep w (Q ++ b13_112) W → W.cell? ⟨qB1, 0, none⟩ = some (.int .i64 kk.kind) ∧ W.cell? ⟨qB1, 1, none⟩ = some (.int .i64 kk.n) ∧ W.cell? ⟨qB1, 2, none⟩ = some (.string kk.s)) := Lib.hid fun W Q T => by
          rw [hb13_112] at T
          have i0 := T.box (b := qB1) (o := objV kk) (Q.length + 5) (by rw [List.getElem?_append_right (by omega), Nat.add_sub_cancel_left]; rfl)
          exact ⟨cellAt i0 0 rfl, cellAt i0 1 rfl, cellAt i0 2 rfl⟩
        replace S := Lib.hid S
        clear hb13_112
        go_upto_region 13 with fail
        have S1 : Sep w ([] ++ b13_112) (w112) := by rw [Hb13_112.out]; exact S.out
        clear S
        refine regionL (E := [emptyR]) (base := b13_112) (Sep.putE S1) ?_
        clear S1
        refine quietL (hy := fun E Wx hSw => by ((refine and3 (Cb13_112_0.out _ _ hSw) fun u0 u1 u2 => ?_); go_simp; exact ⟨rfl, hSw⟩)) (h := ?_)
        simp only [Act.put, pa]; try dsimp only [List.set]
        refine quietL ?_
        simp only [Act.put, pa]; try dsimp only [List.set]
        refine allocL 0 rfl (fun q => .pointer (some ⟨q, 0, none⟩)) (.cells #[.string ⟨#[]⟩, .int .i64 0, .int .i64 0, .string ⟨#[]⟩, .bool false] 38) (h1 := fun Wx => by go_simp) (h2 := fun qb131 => ?_)
        simp only [Act.put, pa]; try dsimp only [List.set]
        try simp only [List.set_cons_zero, List.set_cons_succ]
        refine detL undef [boxX qb131 keyError kk.kind kk.n kk.s true] (h1 := fun Wx hSw => by (have hz := hSw.box (b := qb131) (o := objE) 0 rfl; refine useZ5 hz fun z0 z1 z2 z3 z4 y0 y1 y2 y3 y4 => ?_; go_simp; exact ⟨rfl, hSw.set5 0 rfl (.string keyError) (.int .i64 kk.kind) (.int .i64 kk.n) (.string kk.s) (.bool true)⟩)) (h2 := ?_)
        simp only [Act.put, pa]; try dsimp only [List.set]
        intro w114 S
        replace S : Sep w (boxX qb131 keyError kk.kind kk.n kk.s true :: boxV qa121 y :: boxE qb122 :: boxW qa111 1 1 ⟨#[]⟩ :: boxE qb112 :: boxV qa101 y :: boxV qB1 kk :: heapR h (HD L) :: boxW qD2 4 1 ⟨#[]⟩ :: boxV q3 x :: []) w114 := by rw [Hb13_112.out] at S; exact S
        clear Hb13_112 Kb13_112 Cb13_112_0
        refine named (boxX qb131 keyError kk.kind kk.n kk.s true :: boxV qa121 y :: boxE qb122 :: boxW qa111 1 1 ⟨#[]⟩ :: boxE qb112 :: boxV qa101 y :: boxV qB1 kk :: heapR h (HD L) :: boxW qD2 4 1 ⟨#[]⟩ :: boxV q3 x :: []) fun b14_114 hb14_114 => ?_
        have Hb14_114 := Lib.hid hb14_114
        have Kb14_114 : Hid (∀ W (Q : List Res), Sep w (Q ++ b14_114) W → True) := Lib.hid fun W Q T => by
          rw [hb14_114] at T
          trivial
        have Cb14_114_0 : Hid (∀ W (Q : List Res), Sep w (Q ++ b14_114) W → W.cell? ⟨qa111, 0, none⟩ = some (.int .i64 1) ∧ W.cell? ⟨qa111, 1, none⟩ = some (.int .i64 1) ∧ W.cell? ⟨qa111, 2, none⟩ = some (.string ⟨#[]⟩)) := Lib.hid fun W Q T => by
          rw [hb14_114] at T
          have i0 := T.box (b := qa111) (o := objW 1 1 ⟨#[]⟩) (Q.length + 3) (by rw [List.getElem?_append_right (by omega), Nat.add_sub_cancel_left]; rfl)
          exact ⟨cellAt i0 0 rfl, cellAt i0 1 rfl, cellAt i0 2 rfl⟩
        have Cb14_114_1 : Hid (∀ W (Q : List Res), Sep w (Q ++ b14_114) W → W.cell? ⟨qb112, 0, none⟩ = some (.string ⟨#[]⟩) ∧ W.cell? ⟨qb112, 1, none⟩ = some (.int .i64 0) ∧ W.cell? ⟨qb112, 2, none⟩ = some (.int .i64 0) ∧ W.cell? ⟨qb112, 3, none⟩ = some (.string ⟨#[]⟩) ∧ W.cell? ⟨qb112, 4, none⟩ = some (.bool false)) := Lib.hid fun W Q T => by
          rw [hb14_114] at T
          have i0 := T.box (b := qb112) (o := objE) (Q.length + 4) (by rw [List.getElem?_append_right (by omega), Nat.add_sub_cancel_left]; rfl)
          exact ⟨cellAt i0 0 rfl, cellAt i0 1 rfl, cellAt i0 2 rfl, cellAt i0 3 rfl, cellAt i0 4 rfl⟩
        have Cb14_114_2 : Hid (∀ W (Q : List Res), Sep w (Q ++ b14_114) W → W.cell? ⟨qb122, 0, none⟩ = some (.string ⟨#[]⟩) ∧ W.cell? ⟨qb122, 1, none⟩ = some (.int .i64 0) ∧ W.cell? ⟨qb122, 2, none⟩ = some (.int .i64 0) ∧ W.cell? ⟨qb122, 3, none⟩ = some (.string ⟨#[]⟩) ∧ W.cell? ⟨qb122, 4, none⟩ = some (.bool false)) := Lib.hid fun W Q T => by
          rw [hb14_114] at T
          have i0 := T.box (b := qb122) (o := objE) (Q.length + 2) (by rw [List.getElem?_append_right (by omega), Nat.add_sub_cancel_left]; rfl)
          exact ⟨cellAt i0 0 rfl, cellAt i0 1 rfl, cellAt i0 2 rfl, cellAt i0 3 rfl, cellAt i0 4 rfl⟩
        have K14_1 : Hid (∀ W (Q : List Res), Sep w (Q ++ b14_114) W → Calls Tryz.prog 19 #[excZ] W fun e W' => e = .returned (.bool true) ∧ Sep w (Q ++ b14_114) W') := Lib.hid fun W Q T => by
          exact (none_z W).mono fun e W' ⟨e1, e2⟩ => ⟨e1, T.later e2⟩
        have K14_6 : Hid (∀ W (Q : List Res), Sep w (Q ++ b14_114) W → Calls Tryz.prog 20 #[.bool true] W fun e W' => e = .returned (.agg #[.int .i64 1, .int .i64 1, .string ⟨#[]⟩]) ∧ Sep w (Q ++ b14_114) W') := Lib.hid fun W Q T => by
          exact (lyes_ok W true).mono fun e W' ⟨e1, e2⟩ => ⟨e1, T.later e2⟩
        have K14_22 : Hid (∀ W (Q : List Res), Sep w (Q ++ b14_114) W → Calls Tryz.prog 19 #[excZ] W fun e W' => e = .returned (.bool true) ∧ Sep w (Q ++ b14_114) W') := Lib.hid fun W Q T => by
          exact (none_z W).mono fun e W' ⟨e1, e2⟩ => ⟨e1, T.later e2⟩
        replace S := Lib.hid S
        clear hb14_114
        go_upto_region 14 with fail
        have S1 : Sep w ([] ++ b14_114) (w114) := by rw [Hb14_114.out]; exact S.out
        clear S
        refine regionP 26 0 (E := []) (base := b14_114) S1 ?_
        clear S1
        refine quietP (hy := fun E Wx hSw => by ((refine and5 (Cb14_114_1.out _ _ hSw) fun u0 u1 u2 u3 u4 => ?_); go_simp; exact ⟨rfl, hSw⟩)) (h := ?_)
        simp only [Act.put, pa]; try dsimp only [List.set]
        refine quietP (hy := fun E Wx hSw => by (go_simp; exact symCall (K14_1.out _ _ hSw))) (h := ?_)
        simp only [Act.put, pa]; try dsimp only [List.set]
        iterate 2 (refine quietP ?_; simp only [Act.put, pa]; try dsimp only [List.set])
        refine quietP (hy := fun E Wx hSw => by ((refine and3 (Cb14_114_0.out _ _ hSw) fun u0 u1 u2 => ?_); go_simp; exact ⟨rfl, hSw⟩)) (h := ?_)
        simp only [Act.put, pa]; try dsimp only [List.set]
        refine quietP ?_
        simp only [Act.put, pa]; try dsimp only [List.set]
        refine quietP (hy := fun E Wx hSw => by (go_simp; exact symCall (K14_6.out _ _ hSw))) (h := ?_)
        simp only [Act.put, pa]; try dsimp only [List.set]
        iterate 6 (refine quietP ?_; simp only [Act.put, pa]; try dsimp only [List.set])
        iterate 3 (refine skipP ?_; simp only [Act.put, pa]; try dsimp only [List.set])
        iterate 5 (refine quietP ?_; simp only [Act.put, pa]; try dsimp only [List.set])
        refine quietP (hy := fun E Wx hSw => by ((refine and5 (Cb14_114_2.out _ _ hSw) fun u0 u1 u2 u3 u4 => ?_); go_simp; exact ⟨rfl, hSw⟩)) (h := ?_)
        simp only [Act.put, pa]; try dsimp only [List.set]
        refine quietP (hy := fun E Wx hSw => by (go_simp; exact symCall (K14_22.out _ _ hSw))) (h := ?_)
        simp only [Act.put, pa]; try dsimp only [List.set]
        iterate 3 (refine quietP ?_; simp only [Act.put, pa]; try dsimp only [List.set])
        refine endP ?_
        refine doneS (h := fun w116 S => ?_)
        replace S : Sep w (boxX qb131 keyError kk.kind kk.n kk.s true :: boxV qa121 y :: boxE qb122 :: boxW qa111 1 1 ⟨#[]⟩ :: boxE qb112 :: boxV qa101 y :: boxV qB1 kk :: heapR h (HD L) :: boxW qD2 4 1 ⟨#[]⟩ :: boxV q3 x :: []) w116 := by rw [Hb14_114.out] at S; exact S
        clear Hb14_114 Kb14_114 K14_1 K14_6 K14_22 Cb14_114_0 Cb14_114_1 Cb14_114_2
        by_cases h7 : bits .and .i64 v.n 7 = 7
        · as_aux_lemma =>
            refine named (boxX qb131 keyError kk.kind kk.n kk.s true :: boxV qa121 y :: boxE qb122 :: boxW qa111 1 1 ⟨#[]⟩ :: boxE qb112 :: boxV qa101 y :: boxV qB1 kk :: heapR h (HD L) :: boxW qD2 4 1 ⟨#[]⟩ :: boxV q3 x :: []) fun b16_136 hb16_136 => ?_
            have Hb16_136 := Lib.hid hb16_136
            have Kb16_136 : Hid (∀ W (Q : List Res), Sep w (Q ++ b16_136) W → True) := Lib.hid fun W Q T => by
              rw [hb16_136] at T
              trivial
            replace S := Lib.hid S
            clear hb16_136
            go_upto_region 16 with fail
            have S1 : Sep w ([] ++ b16_136) (w116) := by rw [Hb16_136.out]; exact S.out
            clear S
            refine regionL (E := []) (base := b16_136) S1 ?_
            clear S1
            iterate 4 (refine quietL ?_; simp only [Act.put, pa]; try dsimp only [List.set])
            refine quietL (hy := fun E Wx hSw => by ((refine and3 (CX.out _ _ hSw) fun u0 u1 u2 => ?_); go_simp; exact ⟨rfl, hSw⟩)) (h := ?_)
            simp only [Act.put, pa]; try dsimp only [List.set]
            iterate 2 (refine quietL ?_; simp only [Act.put, pa]; try dsimp only [List.set])
            intro w138 S
            replace S : Sep w (boxX qb131 keyError kk.kind kk.n kk.s true :: boxV qa121 y :: boxE qb122 :: boxW qa111 1 1 ⟨#[]⟩ :: boxE qb112 :: boxV qa101 y :: boxV qB1 kk :: heapR h (HD L) :: boxW qD2 4 1 ⟨#[]⟩ :: boxV q3 x :: []) w138 := by rw [Hb16_136.out] at S; exact S
            clear Hb16_136 Kb16_136
            clear h7
            replace S : Sep w (heapR h (HD L) :: boxX qb131 keyError kk.kind kk.n kk.s true :: boxV qa121 y :: boxE qb122 :: boxW qa111 1 1 ⟨#[]⟩ :: boxE qb112 :: boxV qa101 y :: boxV qB1 kk :: boxW qD2 4 1 ⟨#[]⟩ :: boxV q3 x :: []) (w138) := by
              refine (show Sep w ([boxX qb131 keyError kk.kind kk.n kk.s true, boxV qa121 y, boxE qb122, boxW qa111 1 1 ⟨#[]⟩, boxE qb112, boxV qa101 y, boxV qB1 kk, heapR h (HD L), boxW qD2 4 1 ⟨#[]⟩, boxV q3 x] ++ []) _ from S).perm ?_
              exact List.Perm.append_right [] (perm_of (l := [boxX qb131 keyError kk.kind kk.n kk.s true, boxV qa121 y, boxE qb122, boxW qa111 1 1 ⟨#[]⟩, boxE qb112, boxV qa101 y, boxV qB1 kk, heapR h (HD L), boxW qD2 4 1 ⟨#[]⟩, boxV q3 x]) [7, 0, 1, 2, 3, 4, 5, 6, 8, 9] (by show (List.range' 0 10).Perm [7, 0, 1, 2, 3, 4, 5, 6, 8, 9]; decide) (by rfl))
            refine named (boxX qb131 keyError kk.kind kk.n kk.s true :: boxV qa121 y :: boxE qb122 :: boxW qa111 1 1 ⟨#[]⟩ :: boxE qb112 :: boxV qa101 y :: boxV qB1 kk :: boxW qD2 4 1 ⟨#[]⟩ :: boxV q3 x :: []) fun b17_138 hb17_138 => ?_
            have Hb17_138 := Lib.hid hb17_138
            have Kb17_138 : Hid (∀ W (Q : List Res), Sep w (Q ++ b17_138) W → True) := Lib.hid fun W Q T => by
              rw [hb17_138] at T
              trivial
            have Cb17_138_0 : Hid (∀ W (Q : List Res), Sep w (Q ++ b17_138) W → W.cell? ⟨qB1, 0, none⟩ = some (.int .i64 kk.kind) ∧ W.cell? ⟨qB1, 1, none⟩ = some (.int .i64 kk.n) ∧ W.cell? ⟨qB1, 2, none⟩ = some (.string kk.s)) := Lib.hid fun W Q T => by
              rw [hb17_138] at T
              have i0 := T.box (b := qB1) (o := objV kk) (Q.length + 6) (by rw [List.getElem?_append_right (by omega), Nat.add_sub_cancel_left]; rfl)
              exact ⟨cellAt i0 0 rfl, cellAt i0 1 rfl, cellAt i0 2 rfl⟩
            have Cb17_138_1 : Hid (∀ W (Q : List Res), Sep w (Q ++ b17_138) W → W.cell? ⟨qD2, 0, none⟩ = some (.int .i64 4) ∧ W.cell? ⟨qD2, 1, none⟩ = some (.int .i64 1) ∧ W.cell? ⟨qD2, 2, none⟩ = some (.string ⟨#[]⟩)) := Lib.hid fun W Q T => by
              rw [hb17_138] at T
              have i0 := T.box (b := qD2) (o := objW 4 1 ⟨#[]⟩) (Q.length + 7) (by rw [List.getElem?_append_right (by omega), Nat.add_sub_cancel_left]; rfl)
              exact ⟨cellAt i0 0 rfl, cellAt i0 1 rfl, cellAt i0 2 rfl⟩
            replace S := Lib.hid S
            clear hb17_138
            go_upto_region 17 with fail
            have S1 : Sep w ([heapR h (HD L)] ++ b17_138) (w138) := by rw [Hb17_138.out]; exact S.out
            clear S
            refine regionL (E := [emptyR, heapR h (HD L)]) (base := b17_138) (Sep.putE S1) ?_
            clear S1
            refine quietL ?_
            simp only [Act.put, pa]; try dsimp only [List.set]
            refine quietL (hy := fun E Wx hSw => by ((refine and3 (Cb17_138_1.out _ _ hSw) fun u0 u1 u2 => ?_); go_simp; exact ⟨rfl, hSw⟩)) (h := ?_)
            simp only [Act.put, pa]; try dsimp only [List.set]
            refine quietL (hy := fun E Wx hSw => by ((refine and3 (Cb17_138_0.out _ _ hSw) fun u0 u1 u2 => ?_); go_simp; exact ⟨rfl, hSw⟩)) (h := ?_)
            simp only [Act.put, pa]; try dsimp only [List.set]
            refine detL (excZ) [emptyR, heapR h (HD (delL L kk))] (h1 := fun Wx hSw => by (go_simp; refine symCall ?_; exact d_rem hSw 1 rfl HLB.out kk HKK.out (by rw [HG.out]; rfl))) (h2 := ?_)
            simp only [Act.put, pa]; try dsimp only [List.set]
            refine allocL 0 rfl (fun q => .pointer (some ⟨q, 0, none⟩)) (.cells #[.string ⟨#[]⟩, .int .i64 0, .int .i64 0, .string ⟨#[]⟩, .bool false] 38) (h1 := fun Wx => by go_simp) (h2 := fun qb172 => ?_)
            simp only [Act.put, pa]; try dsimp only [List.set]
            try simp only [List.set_cons_zero, List.set_cons_succ]
            refine detL undef [boxE qb172, heapR h (HD (delL L kk))] (h1 := fun Wx hSw => by (have hz := hSw.box (b := qb172) (o := objE) 0 rfl; refine useZ5 hz fun z0 z1 z2 z3 z4 y0 y1 y2 y3 y4 => ?_; go_simp; exact ⟨rfl, hSw.set5 0 rfl (.string ⟨#[]⟩) (.int .i64 0) (.int .i64 0) (.string ⟨#[]⟩) (.bool false)⟩)) (h2 := ?_)
            simp only [Act.put, pa]; try dsimp only [List.set]
            intro w140 S
            replace S : Sep w (boxE qb172 :: heapR h (HD (delL L kk)) :: boxX qb131 keyError kk.kind kk.n kk.s true :: boxV qa121 y :: boxE qb122 :: boxW qa111 1 1 ⟨#[]⟩ :: boxE qb112 :: boxV qa101 y :: boxV qB1 kk :: boxW qD2 4 1 ⟨#[]⟩ :: boxV q3 x :: []) w140 := by rw [Hb17_138.out] at S; exact S
            clear Hb17_138 Kb17_138 Cb17_138_0 Cb17_138_1
            have HG2 : Hid (getL (delL L kk) kk = none) := Lib.hid (by rw [getL_delL, if_pos rfl])
            refine named (boxE qb172 :: heapR h (HD (delL L kk)) :: boxX qb131 keyError kk.kind kk.n kk.s true :: boxV qa121 y :: boxE qb122 :: boxW qa111 1 1 ⟨#[]⟩ :: boxE qb112 :: boxV qa101 y :: boxV qB1 kk :: boxW qD2 4 1 ⟨#[]⟩ :: boxV q3 x :: []) fun b18_140 hb18_140 => ?_
            have Hb18_140 := Lib.hid hb18_140
            have Kb18_140 : Hid (∀ W (Q : List Res), Sep w (Q ++ b18_140) W → True) := Lib.hid fun W Q T => by
              rw [hb18_140] at T
              trivial
            have Cb18_140_0 : Hid (∀ W (Q : List Res), Sep w (Q ++ b18_140) W → W.cell? ⟨qB1, 0, none⟩ = some (.int .i64 kk.kind) ∧ W.cell? ⟨qB1, 1, none⟩ = some (.int .i64 kk.n) ∧ W.cell? ⟨qB1, 2, none⟩ = some (.string kk.s)) := Lib.hid fun W Q T => by
              rw [hb18_140] at T
              have i0 := T.box (b := qB1) (o := objV kk) (Q.length + 8) (by rw [List.getElem?_append_right (by omega), Nat.add_sub_cancel_left]; rfl)
              exact ⟨cellAt i0 0 rfl, cellAt i0 1 rfl, cellAt i0 2 rfl⟩
            have Cb18_140_1 : Hid (∀ W (Q : List Res), Sep w (Q ++ b18_140) W → W.cell? ⟨qD2, 0, none⟩ = some (.int .i64 4) ∧ W.cell? ⟨qD2, 1, none⟩ = some (.int .i64 1) ∧ W.cell? ⟨qD2, 2, none⟩ = some (.string ⟨#[]⟩)) := Lib.hid fun W Q T => by
              rw [hb18_140] at T
              have i0 := T.box (b := qD2) (o := objW 4 1 ⟨#[]⟩) (Q.length + 9) (by rw [List.getElem?_append_right (by omega), Nat.add_sub_cancel_left]; rfl)
              exact ⟨cellAt i0 0 rfl, cellAt i0 1 rfl, cellAt i0 2 rfl⟩
            have K18_3 : Hid (∀ W (Q : List Res), Sep w (Q ++ b18_140) W → Calls Tryz.prog 18 #[.pointer (some ⟨h, 0, none⟩), .string ⟨#[110, 111, 116, 32, 105, 110]⟩, .agg #[.int .i64 kk.kind, .int .i64 kk.n, .string kk.s], .agg #[.int .i64 4, .int .i64 1, .string ⟨#[]⟩]] W fun e W' => e = .returned (.tuple #[.agg #[.int .i64 1, .int .i64 1, .string ⟨#[]⟩], excZ]) ∧ Sep w (Q ++ b18_140) W') := Lib.hid fun W Q T => by
              rw [Hb18_140.out] at T ⊢
              exact d_nin T (Q.length + 1) (by rw [List.getElem?_append_right (by omega), Nat.add_sub_cancel_left]; rfl) kk HKK.out HG2.out
            replace S := Lib.hid S
            clear hb18_140
            go_upto_region 18 with fail
            have S1 : Sep w ([] ++ b18_140) (w140) := by rw [Hb18_140.out]; exact S.out
            clear S
            refine regionL (E := [emptyR, emptyR]) (base := b18_140) (Sep.putE (Sep.putE S1)) ?_
            clear S1
            refine quietL ?_
            simp only [Act.put, pa]; try dsimp only [List.set]
            refine quietL (hy := fun E Wx hSw => by ((refine and3 (Cb18_140_0.out _ _ hSw) fun u0 u1 u2 => ?_); go_simp; exact ⟨rfl, hSw⟩)) (h := ?_)
            simp only [Act.put, pa]; try dsimp only [List.set]
            refine quietL (hy := fun E Wx hSw => by ((refine and3 (Cb18_140_1.out _ _ hSw) fun u0 u1 u2 => ?_); go_simp; exact ⟨rfl, hSw⟩)) (h := ?_)
            simp only [Act.put, pa]; try dsimp only [List.set]
            refine quietL (hy := fun E Wx hSw => by (go_simp; exact symCall (K18_3.out _ _ hSw))) (h := ?_)
            simp only [Act.put, pa]; try dsimp only [List.set]
            iterate 3 (refine quietL ?_; simp only [Act.put, pa]; try dsimp only [List.set])
            refine allocL 0 rfl (fun q => .pointer (some ⟨q, 0, none⟩)) (.cells #[.int .i64 0, .int .i64 0, .string ⟨#[]⟩] 29) (h1 := fun Wx => by go_simp) (h2 := fun qa181 => ?_)
            simp only [Act.put, pa]; try dsimp only [List.set]
            try simp only [List.set_cons_zero, List.set_cons_succ]
            refine allocL 1 rfl (fun q => .pointer (some ⟨q, 0, none⟩)) (.cells #[.string ⟨#[]⟩, .int .i64 0, .int .i64 0, .string ⟨#[]⟩, .bool false] 38) (h1 := fun Wx => by go_simp) (h2 := fun qb182 => ?_)
            simp only [Act.put, pa]; try dsimp only [List.set]
            try simp only [List.set_cons_zero, List.set_cons_succ]
            refine detL undef [boxW qa181 1 1 ⟨#[]⟩, boxE qb182] (h1 := fun Wx hSw => by (have hz := hSw.box (b := qa181) (o := objZ) 0 rfl; refine useZ3 hz fun z0 z1 z2 y0 y1 y2 => ?_; go_simp; exact ⟨rfl, hSw.set3 0 rfl (.int .i64 1) (.int .i64 1) (.string ⟨#[]⟩)⟩)) (h2 := ?_)
            simp only [Act.put, pa]; try dsimp only [List.set]
            refine detL undef [boxW qa181 1 1 ⟨#[]⟩, boxE qb182] (h1 := fun Wx hSw => by (have hz := hSw.box (b := qb182) (o := objE) 1 rfl; refine useZ5 hz fun z0 z1 z2 z3 z4 y0 y1 y2 y3 y4 => ?_; go_simp; exact ⟨rfl, hSw.set5 1 rfl (.string ⟨#[]⟩) (.int .i64 0) (.int .i64 0) (.string ⟨#[]⟩) (.bool false)⟩)) (h2 := ?_)
            simp only [Act.put, pa]; try dsimp only [List.set]
            intro w142 S
            replace S : Sep w (boxW qa181 1 1 ⟨#[]⟩ :: boxE qb182 :: boxE qb172 :: heapR h (HD (delL L kk)) :: boxX qb131 keyError kk.kind kk.n kk.s true :: boxV qa121 y :: boxE qb122 :: boxW qa111 1 1 ⟨#[]⟩ :: boxE qb112 :: boxV qa101 y :: boxV qB1 kk :: boxW qD2 4 1 ⟨#[]⟩ :: boxV q3 x :: []) w142 := by rw [Hb18_140.out] at S; exact S
            clear Hb18_140 Kb18_140 K18_3 Cb18_140_0 Cb18_140_1
            refine named (boxW qa181 1 1 ⟨#[]⟩ :: boxE qb182 :: boxE qb172 :: heapR h (HD (delL L kk)) :: boxX qb131 keyError kk.kind kk.n kk.s true :: boxV qa121 y :: boxE qb122 :: boxW qa111 1 1 ⟨#[]⟩ :: boxE qb112 :: boxV qa101 y :: boxV qB1 kk :: boxW qD2 4 1 ⟨#[]⟩ :: boxV q3 x :: []) fun b19_142 hb19_142 => ?_
            have Hb19_142 := Lib.hid hb19_142
            have Kb19_142 : Hid (∀ W (Q : List Res), Sep w (Q ++ b19_142) W → True) := Lib.hid fun W Q T => by
              rw [hb19_142] at T
              trivial
            have Cb19_142_0 : Hid (∀ W (Q : List Res), Sep w (Q ++ b19_142) W → W.cell? ⟨qa181, 0, none⟩ = some (.int .i64 1) ∧ W.cell? ⟨qa181, 1, none⟩ = some (.int .i64 1) ∧ W.cell? ⟨qa181, 2, none⟩ = some (.string ⟨#[]⟩)) := Lib.hid fun W Q T => by
              rw [hb19_142] at T
              have i0 := T.box (b := qa181) (o := objW 1 1 ⟨#[]⟩) (Q.length + 0) (by rw [List.getElem?_append_right (by omega), Nat.add_sub_cancel_left]; rfl)
              exact ⟨cellAt i0 0 rfl, cellAt i0 1 rfl, cellAt i0 2 rfl⟩
            have Cb19_142_1 : Hid (∀ W (Q : List Res), Sep w (Q ++ b19_142) W → W.cell? ⟨qb172, 0, none⟩ = some (.string ⟨#[]⟩) ∧ W.cell? ⟨qb172, 1, none⟩ = some (.int .i64 0) ∧ W.cell? ⟨qb172, 2, none⟩ = some (.int .i64 0) ∧ W.cell? ⟨qb172, 3, none⟩ = some (.string ⟨#[]⟩) ∧ W.cell? ⟨qb172, 4, none⟩ = some (.bool false)) := Lib.hid fun W Q T => by
              rw [hb19_142] at T
              have i0 := T.box (b := qb172) (o := objE) (Q.length + 2) (by rw [List.getElem?_append_right (by omega), Nat.add_sub_cancel_left]; rfl)
              exact ⟨cellAt i0 0 rfl, cellAt i0 1 rfl, cellAt i0 2 rfl, cellAt i0 3 rfl, cellAt i0 4 rfl⟩
            have Cb19_142_2 : Hid (∀ W (Q : List Res), Sep w (Q ++ b19_142) W → W.cell? ⟨qb182, 0, none⟩ = some (.string ⟨#[]⟩) ∧ W.cell? ⟨qb182, 1, none⟩ = some (.int .i64 0) ∧ W.cell? ⟨qb182, 2, none⟩ = some (.int .i64 0) ∧ W.cell? ⟨qb182, 3, none⟩ = some (.string ⟨#[]⟩) ∧ W.cell? ⟨qb182, 4, none⟩ = some (.bool false)) := Lib.hid fun W Q T => by
              rw [hb19_142] at T
              have i0 := T.box (b := qb182) (o := objE) (Q.length + 1) (by rw [List.getElem?_append_right (by omega), Nat.add_sub_cancel_left]; rfl)
              exact ⟨cellAt i0 0 rfl, cellAt i0 1 rfl, cellAt i0 2 rfl, cellAt i0 3 rfl, cellAt i0 4 rfl⟩
            have K19_17 : Hid (∀ W (Q : List Res), Sep w (Q ++ b19_142) W → Calls Tryz.prog 20 #[.bool true] W fun e W' => e = .returned (.agg #[.int .i64 1, .int .i64 1, .string ⟨#[]⟩]) ∧ Sep w (Q ++ b19_142) W') := Lib.hid fun W Q T => by
              exact (lyes_ok W true).mono fun e W' ⟨e1, e2⟩ => ⟨e1, T.later e2⟩
            have K19_22 : Hid (∀ W (Q : List Res), Sep w (Q ++ b19_142) W → Calls Tryz.prog 19 #[excZ] W fun e W' => e = .returned (.bool true) ∧ Sep w (Q ++ b19_142) W') := Lib.hid fun W Q T => by
              exact (none_z W).mono fun e W' ⟨e1, e2⟩ => ⟨e1, T.later e2⟩
            have K19_3 : Hid (∀ W (Q : List Res), Sep w (Q ++ b19_142) W → Calls Tryz.prog 19 #[excZ] W fun e W' => e = .returned (.bool true) ∧ Sep w (Q ++ b19_142) W') := Lib.hid fun W Q T => by
              exact (none_z W).mono fun e W' ⟨e1, e2⟩ => ⟨e1, T.later e2⟩
            replace S := Lib.hid S
            clear hb19_142
            go_upto_region 19 with fail
            have S1 : Sep w ([] ++ b19_142) (w142) := by rw [Hb19_142.out]; exact S.out
            clear S
            refine regionP 25 0 (E := []) (base := b19_142) S1 ?_
            clear S1
            iterate 2 (refine quietP ?_; simp only [Act.put, pa]; try dsimp only [List.set])
            refine quietP (hy := fun E Wx hSw => by ((refine and5 (Cb19_142_1.out _ _ hSw) fun u0 u1 u2 u3 u4 => ?_); go_simp; exact ⟨rfl, hSw⟩)) (h := ?_)
            simp only [Act.put, pa]; try dsimp only [List.set]
            refine quietP (hy := fun E Wx hSw => by (go_simp; exact symCall (K19_3.out _ _ hSw))) (h := ?_)
            simp only [Act.put, pa]; try dsimp only [List.set]
            iterate 6 (refine quietP ?_; simp only [Act.put, pa]; try dsimp only [List.set])
            iterate 3 (refine skipP ?_; simp only [Act.put, pa]; try dsimp only [List.set])
            iterate 3 (refine quietP ?_; simp only [Act.put, pa]; try dsimp only [List.set])
            refine quietP (hy := fun E Wx hSw => by ((refine and3 (Cb19_142_0.out _ _ hSw) fun u0 u1 u2 => ?_); go_simp; exact ⟨rfl, hSw⟩)) (h := ?_)
            simp only [Act.put, pa]; try dsimp only [List.set]
            refine quietP (hy := fun E Wx hSw => by (go_simp; exact symCall (K19_17.out _ _ hSw))) (h := ?_)
            simp only [Act.put, pa]; try dsimp only [List.set]
            iterate 3 (refine quietP ?_; simp only [Act.put, pa]; try dsimp only [List.set])
            refine quietP (hy := fun E Wx hSw => by ((refine and5 (Cb19_142_2.out _ _ hSw) fun u0 u1 u2 u3 u4 => ?_); go_simp; exact ⟨rfl, hSw⟩)) (h := ?_)
            simp only [Act.put, pa]; try dsimp only [List.set]
            refine quietP (hy := fun E Wx hSw => by (go_simp; exact symCall (K19_22.out _ _ hSw))) (h := ?_)
            simp only [Act.put, pa]; try dsimp only [List.set]
            iterate 2 (refine quietP ?_; simp only [Act.put, pa]; try dsimp only [List.set])
            refine endP ?_
            refine doneS (h := fun w144 S => ?_)
            replace S : Sep w (boxW qa181 1 1 ⟨#[]⟩ :: boxE qb182 :: boxE qb172 :: heapR h (HD (delL L kk)) :: boxX qb131 keyError kk.kind kk.n kk.s true :: boxV qa121 y :: boxE qb122 :: boxW qa111 1 1 ⟨#[]⟩ :: boxE qb112 :: boxV qa101 y :: boxV qB1 kk :: boxW qD2 4 1 ⟨#[]⟩ :: boxV q3 x :: []) w144 := by rw [Hb19_142.out] at S; exact S
            clear Hb19_142 Kb19_142 K19_17 K19_22 K19_3 Cb19_142_0 Cb19_142_1 Cb19_142_2
            replace S : Sep w ([boxW qa181 1 1 ⟨#[]⟩, boxE qb182, boxE qb172, boxX qb131 keyError kk.kind kk.n kk.s true, boxV qa121 y, boxE qb122, boxW qa111 1 1 ⟨#[]⟩, boxE qb112, boxV qa101 y, boxV qB1 kk, heapR h (HD (delL L kk)), boxW qD2 4 1 ⟨#[]⟩, boxV q3 x] ++ []) (w144) := by
              refine (show Sep w ([boxW qa181 1 1 ⟨#[]⟩, boxE qb182, boxE qb172, heapR h (HD (delL L kk)), boxX qb131 keyError kk.kind kk.n kk.s true, boxV qa121 y, boxE qb122, boxW qa111 1 1 ⟨#[]⟩, boxE qb112, boxV qa101 y, boxV qB1 kk, boxW qD2 4 1 ⟨#[]⟩, boxV q3 x] ++ []) _ from S).perm ?_
              exact List.Perm.append_right [] (perm_of (l := [boxW qa181 1 1 ⟨#[]⟩, boxE qb182, boxE qb172, heapR h (HD (delL L kk)), boxX qb131 keyError kk.kind kk.n kk.s true, boxV qa121 y, boxE qb122, boxW qa111 1 1 ⟨#[]⟩, boxE qb112, boxV qa101 y, boxV qB1 kk, boxW qD2 4 1 ⟨#[]⟩, boxV q3 x]) [0, 1, 2, 4, 5, 6, 7, 8, 9, 10, 3, 11, 12] (by show (List.range' 0 13).Perm [0, 1, 2, 4, 5, 6, 7, 8, 9, 10, 3, 11, 12]; decide) (by rfl))
            iterate 10 replace S := S.tail
            replace S : Sep w (heapR h (HD (delL L kk)) :: boxW qD2 4 1 ⟨#[]⟩ :: boxV q3 x :: []) (w144) := S
            replace S := Lib.hid S
            go_wp2
            exact ⟨⟨k + 1, (delL L kk), by have := hc1; omega, by omega, by go_num, (Nat.le_trans (delL_len L kk) (by have := HL.out; omega)), S.out⟩, by simp [intOf]; omega⟩
        · as_aux_lemma =>
            have h8 : (bits .and .i64 v.n 7 == 7) = false := by simpa using h7
            clear h7
            refine named (boxX qb131 keyError kk.kind kk.n kk.s true :: boxV qa121 y :: boxE qb122 :: boxW qa111 1 1 ⟨#[]⟩ :: boxE qb112 :: boxV qa101 y :: boxV qB1 kk :: heapR h (HD L) :: boxW qD2 4 1 ⟨#[]⟩ :: boxV q3 x :: []) fun b16_156 hb16_156 => ?_
            have Hb16_156 := Lib.hid hb16_156
            have Kb16_156 : Hid (∀ W (Q : List Res), Sep w (Q ++ b16_156) W → True) := Lib.hid fun W Q T => by
              rw [hb16_156] at T
              trivial
            replace S := Lib.hid S
            clear hb16_156
            go_upto_region 16 with fail
            have S1 : Sep w ([] ++ b16_156) (w116) := by rw [Hb16_156.out]; exact S.out
            clear S
            refine regionL (E := []) (base := b16_156) S1 ?_
            clear S1
            iterate 4 (refine quietL ?_; simp only [Act.put, pa]; try dsimp only [List.set])
            refine quietL (hy := fun E Wx hSw => by ((refine and3 (CX.out _ _ hSw) fun u0 u1 u2 => ?_); go_simp; exact ⟨rfl, hSw⟩)) (h := ?_)
            simp only [Act.put, pa]; try dsimp only [List.set]
            iterate 2 (refine quietL ?_; simp only [Act.put, pa]; try dsimp only [List.set])
            intro w158 S
            replace S : Sep w (boxX qb131 keyError kk.kind kk.n kk.s true :: boxV qa121 y :: boxE qb122 :: boxW qa111 1 1 ⟨#[]⟩ :: boxE qb112 :: boxV qa101 y :: boxV qB1 kk :: heapR h (HD L) :: boxW qD2 4 1 ⟨#[]⟩ :: boxV q3 x :: []) w158 := by rw [Hb16_156.out] at S; exact S
            clear Hb16_156 Kb16_156
            clear h8
            replace S : Sep w (heapR h (HD L) :: boxX qb131 keyError kk.kind kk.n kk.s true :: boxV qa121 y :: boxE qb122 :: boxW qa111 1 1 ⟨#[]⟩ :: boxE qb112 :: boxV qa101 y :: boxV qB1 kk :: boxW qD2 4 1 ⟨#[]⟩ :: boxV q3 x :: []) (w158) := by
              refine (show Sep w ([boxX qb131 keyError kk.kind kk.n kk.s true, boxV qa121 y, boxE qb122, boxW qa111 1 1 ⟨#[]⟩, boxE qb112, boxV qa101 y, boxV qB1 kk, heapR h (HD L), boxW qD2 4 1 ⟨#[]⟩, boxV q3 x] ++ []) _ from S).perm ?_
              exact List.Perm.append_right [] (perm_of (l := [boxX qb131 keyError kk.kind kk.n kk.s true, boxV qa121 y, boxE qb122, boxW qa111 1 1 ⟨#[]⟩, boxE qb112, boxV qa101 y, boxV qB1 kk, heapR h (HD L), boxW qD2 4 1 ⟨#[]⟩, boxV q3 x]) [7, 0, 1, 2, 3, 4, 5, 6, 8, 9] (by show (List.range' 0 10).Perm [7, 0, 1, 2, 3, 4, 5, 6, 8, 9]; decide) (by rfl))
            refine named (boxX qb131 keyError kk.kind kk.n kk.s true :: boxV qa121 y :: boxE qb122 :: boxW qa111 1 1 ⟨#[]⟩ :: boxE qb112 :: boxV qa101 y :: boxV qB1 kk :: boxW qD2 4 1 ⟨#[]⟩ :: boxV q3 x :: []) fun b21_158 hb21_158 => ?_
            have Hb21_158 := Lib.hid hb21_158
            have Kb21_158 : Hid (∀ W (Q : List Res), Sep w (Q ++ b21_158) W → True) := Lib.hid fun W Q T => by
              rw [hb21_158] at T
              trivial
            have Cb21_158_0 : Hid (∀ W (Q : List Res), Sep w (Q ++ b21_158) W → W.cell? ⟨q3, 0, none⟩ = some (.int .i64 x.kind) ∧ W.cell? ⟨q3, 1, none⟩ = some (.int .i64 x.n) ∧ W.cell? ⟨q3, 2, none⟩ = some (.string x.s)) := Lib.hid fun W Q T => by
              rw [hb21_158] at T
              have i0 := T.box (b := q3) (o := objV x) (Q.length + 8) (by rw [List.getElem?_append_right (by omega), Nat.add_sub_cancel_left]; rfl)
              exact ⟨cellAt i0 0 rfl, cellAt i0 1 rfl, cellAt i0 2 rfl⟩
            have Cb21_158_1 : Hid (∀ W (Q : List Res), Sep w (Q ++ b21_158) W → W.cell? ⟨qB1, 0, none⟩ = some (.int .i64 kk.kind) ∧ W.cell? ⟨qB1, 1, none⟩ = some (.int .i64 kk.n) ∧ W.cell? ⟨qB1, 2, none⟩ = some (.string kk.s)) := Lib.hid fun W Q T => by
              rw [hb21_158] at T
              have i0 := T.box (b := qB1) (o := objV kk) (Q.length + 6) (by rw [List.getElem?_append_right (by omega), Nat.add_sub_cancel_left]; rfl)
              exact ⟨cellAt i0 0 rfl, cellAt i0 1 rfl, cellAt i0 2 rfl⟩
            have Cb21_158_2 : Hid (∀ W (Q : List Res), Sep w (Q ++ b21_158) W → W.cell? ⟨qD2, 0, none⟩ = some (.int .i64 4) ∧ W.cell? ⟨qD2, 1, none⟩ = some (.int .i64 1) ∧ W.cell? ⟨qD2, 2, none⟩ = some (.string ⟨#[]⟩)) := Lib.hid fun W Q T => by
              rw [hb21_158] at T
              have i0 := T.box (b := qD2) (o := objW 4 1 ⟨#[]⟩) (Q.length + 7) (by rw [List.getElem?_append_right (by omega), Nat.add_sub_cancel_left]; rfl)
              exact ⟨cellAt i0 0 rfl, cellAt i0 1 rfl, cellAt i0 2 rfl⟩
            replace S := Lib.hid S
            clear hb21_158
            go_upto_region 21 with fail
            have S1 : Sep w ([heapR h (HD L)] ++ b21_158) (w158) := by rw [Hb21_158.out]; exact S.out
            clear S
            refine regionL (E := [emptyR, heapR h (HD L)]) (base := b21_158) (Sep.putE S1) ?_
            clear S1
            refine quietL ?_
            simp only [Act.put, pa]; try dsimp only [List.set]
            refine quietL (hy := fun E Wx hSw => by ((refine and3 (Cb21_158_2.out _ _ hSw) fun u0 u1 u2 => ?_); go_simp; exact ⟨rfl, hSw⟩)) (h := ?_)
            simp only [Act.put, pa]; try dsimp only [List.set]
            refine quietL (hy := fun E Wx hSw => by ((refine and3 (Cb21_158_1.out _ _ hSw) fun u0 u1 u2 => ?_); go_simp; exact ⟨rfl, hSw⟩)) (h := ?_)
            simp only [Act.put, pa]; try dsimp only [List.set]
            refine quietL (hy := fun E Wx hSw => by ((refine and3 (Cb21_158_0.out _ _ hSw) fun u0 u1 u2 => ?_); go_simp; exact ⟨rfl, hSw⟩)) (h := ?_)
            simp only [Act.put, pa]; try dsimp only [List.set]
            refine detL (excZ) [emptyR, heapR h (HD (putL L kk x))] (h1 := fun Wx hSw => by (go_simp; refine symCall ?_; exact d_put hSw 1 rfl HLB.out kk x HKK.out)) (h2 := ?_)
            simp only [Act.put, pa]; try dsimp only [List.set]
            refine allocL 0 rfl (fun q => .pointer (some ⟨q, 0, none⟩)) (.cells #[.string ⟨#[]⟩, .int .i64 0, .int .i64 0, .string ⟨#[]⟩, .bool false] 38) (h1 := fun Wx => by go_simp) (h2 := fun qb212 => ?_)
            simp only [Act.put, pa]; try dsimp only [List.set]
            try simp only [List.set_cons_zero, List.set_cons_succ]
            refine detL undef [boxE qb212, heapR h (HD (putL L kk x))] (h1 := fun Wx hSw => by (have hz := hSw.box (b := qb212) (o := objE) 0 rfl; refine useZ5 hz fun z0 z1 z2 z3 z4 y0 y1 y2 y3 y4 => ?_; go_simp; exact ⟨rfl, hSw.set5 0 rfl (.string ⟨#[]⟩) (.int .i64 0) (.int .i64 0) (.string ⟨#[]⟩) (.bool false)⟩)) (h2 := ?_)
            simp only [Act.put, pa]; try dsimp only [List.set]
            intro w160 S
            replace S : Sep w (boxE qb212 :: heapR h (HD (putL L kk x)) :: boxX qb131 keyError kk.kind kk.n kk.s true :: boxV qa121 y :: boxE qb122 :: boxW qa111 1 1 ⟨#[]⟩ :: boxE qb112 :: boxV qa101 y :: boxV qB1 kk :: boxW qD2 4 1 ⟨#[]⟩ :: boxV q3 x :: []) w160 := by rw [Hb21_158.out] at S; exact S
            clear Hb21_158 Kb21_158 Cb21_158_0 Cb21_158_1 Cb21_158_2
            have HG2 : Hid (getL (putL L kk x) kk = some x) := Lib.hid (by rw [getL_putL, if_pos rfl])
            refine named (boxE qb212 :: heapR h (HD (putL L kk x)) :: boxX qb131 keyError kk.kind kk.n kk.s true :: boxV qa121 y :: boxE qb122 :: boxW qa111 1 1 ⟨#[]⟩ :: boxE qb112 :: boxV qa101 y :: boxV qB1 kk :: boxW qD2 4 1 ⟨#[]⟩ :: boxV q3 x :: []) fun b22_160 hb22_160 => ?_
            have Hb22_160 := Lib.hid hb22_160
            have Kb22_160 : Hid (∀ W (Q : List Res), Sep w (Q ++ b22_160) W → True) := Lib.hid fun W Q T => by
              rw [hb22_160] at T
              trivial
            have Cb22_160_0 : Hid (∀ W (Q : List Res), Sep w (Q ++ b22_160) W → W.cell? ⟨qB1, 0, none⟩ = some (.int .i64 kk.kind) ∧ W.cell? ⟨qB1, 1, none⟩ = some (.int .i64 kk.n) ∧ W.cell? ⟨qB1, 2, none⟩ = some (.string kk.s)) := Lib.hid fun W Q T => by
              rw [hb22_160] at T
              have i0 := T.box (b := qB1) (o := objV kk) (Q.length + 8) (by rw [List.getElem?_append_right (by omega), Nat.add_sub_cancel_left]; rfl)
              exact ⟨cellAt i0 0 rfl, cellAt i0 1 rfl, cellAt i0 2 rfl⟩
            have Cb22_160_1 : Hid (∀ W (Q : List Res), Sep w (Q ++ b22_160) W → W.cell? ⟨qD2, 0, none⟩ = some (.int .i64 4) ∧ W.cell? ⟨qD2, 1, none⟩ = some (.int .i64 1) ∧ W.cell? ⟨qD2, 2, none⟩ = some (.string ⟨#[]⟩)) := Lib.hid fun W Q T => by
              rw [hb22_160] at T
              have i0 := T.box (b := qD2) (o := objW 4 1 ⟨#[]⟩) (Q.length + 9) (by rw [List.getElem?_append_right (by omega), Nat.add_sub_cancel_left]; rfl)
              exact ⟨cellAt i0 0 rfl, cellAt i0 1 rfl, cellAt i0 2 rfl⟩
            have K22_3 : Hid (∀ W (Q : List Res), Sep w (Q ++ b22_160) W → Calls Tryz.prog 34 #[.pointer (some ⟨h, 0, none⟩), .agg #[.int .i64 4, .int .i64 1, .string ⟨#[]⟩], .agg #[.int .i64 kk.kind, .int .i64 kk.n, .string kk.s]] W fun e W' => e = .returned (.tuple #[.agg #[.int .i64 x.kind, .int .i64 x.n, .string x.s], excZ]) ∧ Sep w (Q ++ b22_160) W') := Lib.hid fun W Q T => by
              rw [Hb22_160.out] at T ⊢
              exact d_idx T (Q.length + 1) (by rw [List.getElem?_append_right (by omega), Nat.add_sub_cancel_left]; rfl) kk x HKK.out HG2.out
            replace S := Lib.hid S
            clear hb22_160
            go_upto_region 22 with fail
            have S1 : Sep w ([] ++ b22_160) (w160) := by rw [Hb22_160.out]; exact S.out
            clear S
            refine regionL (E := [emptyR, emptyR]) (base := b22_160) (Sep.putE (Sep.putE S1)) ?_
            clear S1
            refine quietL ?_
            simp only [Act.put, pa]; try dsimp only [List.set]
            refine quietL (hy := fun E Wx hSw => by ((refine and3 (Cb22_160_1.out _ _ hSw) fun u0 u1 u2 => ?_); go_simp; exact ⟨rfl, hSw⟩)) (h := ?_)
            simp only [Act.put, pa]; try dsimp only [List.set]
            refine quietL (hy := fun E Wx hSw => by ((refine and3 (Cb22_160_0.out _ _ hSw) fun u0 u1 u2 => ?_); go_simp; exact ⟨rfl, hSw⟩)) (h := ?_)
            simp only [Act.put, pa]; try dsimp only [List.set]
            refine quietL (hy := fun E Wx hSw => by (go_simp; exact symCall (K22_3.out _ _ hSw))) (h := ?_)
            simp only [Act.put, pa]; try dsimp only [List.set]
            iterate 3 (refine quietL ?_; simp only [Act.put, pa]; try dsimp only [List.set])
            refine allocL 0 rfl (fun q => .pointer (some ⟨q, 0, none⟩)) (.cells #[.int .i64 0, .int .i64 0, .string ⟨#[]⟩] 29) (h1 := fun Wx => by go_simp) (h2 := fun qa221 => ?_)
            simp only [Act.put, pa]; try dsimp only [List.set]
            try simp only [List.set_cons_zero, List.set_cons_succ]
            refine allocL 1 rfl (fun q => .pointer (some ⟨q, 0, none⟩)) (.cells #[.string ⟨#[]⟩, .int .i64 0, .int .i64 0, .string ⟨#[]⟩, .bool false] 38) (h1 := fun Wx => by go_simp) (h2 := fun qb222 => ?_)
            simp only [Act.put, pa]; try dsimp only [List.set]
            try simp only [List.set_cons_zero, List.set_cons_succ]
            refine detL undef [boxV qa221 x, boxE qb222] (h1 := fun Wx hSw => by (have hz := hSw.box (b := qa221) (o := objZ) 0 rfl; refine useZ3 hz fun z0 z1 z2 y0 y1 y2 => ?_; go_simp; exact ⟨rfl, hSw.set3 0 rfl (.int .i64 x.kind) (.int .i64 x.n) (.string x.s)⟩)) (h2 := ?_)
            simp only [Act.put, pa]; try dsimp only [List.set]
            refine detL undef [boxV qa221 x, boxE qb222] (h1 := fun Wx hSw => by (have hz := hSw.box (b := qb222) (o := objE) 1 rfl; refine useZ5 hz fun z0 z1 z2 z3 z4 y0 y1 y2 y3 y4 => ?_; go_simp; exact ⟨rfl, hSw.set5 1 rfl (.string ⟨#[]⟩) (.int .i64 0) (.int .i64 0) (.string ⟨#[]⟩) (.bool false)⟩)) (h2 := ?_)
            simp only [Act.put, pa]; try dsimp only [List.set]
            intro w162 S
            replace S : Sep w (boxV qa221 x :: boxE qb222 :: boxE qb212 :: heapR h (HD (putL L kk x)) :: boxX qb131 keyError kk.kind kk.n kk.s true :: boxV qa121 y :: boxE qb122 :: boxW qa111 1 1 ⟨#[]⟩ :: boxE qb112 :: boxV qa101 y :: boxV qB1 kk :: boxW qD2 4 1 ⟨#[]⟩ :: boxV q3 x :: []) w162 := by rw [Hb22_160.out] at S; exact S
            clear Hb22_160 Kb22_160 K22_3 Cb22_160_0 Cb22_160_1
            refine named (boxV qa221 x :: boxE qb222 :: boxE qb212 :: heapR h (HD (putL L kk x)) :: boxX qb131 keyError kk.kind kk.n kk.s true :: boxV qa121 y :: boxE qb122 :: boxW qa111 1 1 ⟨#[]⟩ :: boxE qb112 :: boxV qa101 y :: boxV qB1 kk :: boxW qD2 4 1 ⟨#[]⟩ :: boxV q3 x :: []) fun b23_162 hb23_162 => ?_
            have Hb23_162 := Lib.hid hb23_162
            have Kb23_162 : Hid (∀ W (Q : List Res), Sep w (Q ++ b23_162) W → True) := Lib.hid fun W Q T => by
              rw [hb23_162] at T
              trivial
            have Cb23_162_0 : Hid (∀ W (Q : List Res), Sep w (Q ++ b23_162) W → W.cell? ⟨q3, 0, none⟩ = some (.int .i64 x.kind) ∧ W.cell? ⟨q3, 1, none⟩ = some (.int .i64 x.n) ∧ W.cell? ⟨q3, 2, none⟩ = some (.string x.s)) := Lib.hid fun W Q T => by
              rw [hb23_162] at T
              have i0 := T.box (b := q3) (o := objV x) (Q.length + 12) (by rw [List.getElem?_append_right (by omega), Nat.add_sub_cancel_left]; rfl)
              exact ⟨cellAt i0 0 rfl, cellAt i0 1 rfl, cellAt i0 2 rfl⟩
            have Cb23_162_1 : Hid (∀ W (Q : List Res), Sep w (Q ++ b23_162) W → W.cell? ⟨qa221, 0, none⟩ = some (.int .i64 x.kind) ∧ W.cell? ⟨qa221, 1, none⟩ = some (.int .i64 x.n) ∧ W.cell? ⟨qa221, 2, none⟩ = some (.string x.s)) := Lib.hid fun W Q T => by
              rw [hb23_162] at T
              have i0 := T.box (b := qa221) (o := objV x) (Q.length + 0) (by rw [List.getElem?_append_right (by omega), Nat.add_sub_cancel_left]; rfl)
              exact ⟨cellAt i0 0 rfl, cellAt i0 1 rfl, cellAt i0 2 rfl⟩
            have Cb23_162_2 : Hid (∀ W (Q : List Res), Sep w (Q ++ b23_162) W → W.cell? ⟨qb212, 0, none⟩ = some (.string ⟨#[]⟩) ∧ W.cell? ⟨qb212, 1, none⟩ = some (.int .i64 0) ∧ W.cell? ⟨qb212, 2, none⟩ = some (.int .i64 0) ∧ W.cell? ⟨qb212, 3, none⟩ = some (.string ⟨#[]⟩) ∧ W.cell? ⟨qb212, 4, none⟩ = some (.bool false)) := Lib.hid fun W Q T => by
              rw [hb23_162] at T
              have i0 := T.box (b := qb212) (o := objE) (Q.length + 2) (by rw [List.getElem?_append_right (by omega), Nat.add_sub_cancel_left]; rfl)
              exact ⟨cellAt i0 0 rfl, cellAt i0 1 rfl, cellAt i0 2 rfl, cellAt i0 3 rfl, cellAt i0 4 rfl⟩
            have Cb23_162_3 : Hid (∀ W (Q : List Res), Sep w (Q ++ b23_162) W → W.cell? ⟨qb222, 0, none⟩ = some (.string ⟨#[]⟩) ∧ W.cell? ⟨qb222, 1, none⟩ = some (.int .i64 0) ∧ W.cell? ⟨qb222, 2, none⟩ = some (.int .i64 0) ∧ W.cell? ⟨qb222, 3, none⟩ = some (.string ⟨#[]⟩) ∧ W.cell? ⟨qb222, 4, none⟩ = some (.bool false)) := Lib.hid fun W Q T => by
              rw [hb23_162] at T
              have i0 := T.box (b := qb222) (o := objE) (Q.length + 1) (by rw [List.getElem?_append_right (by omega), Nat.add_sub_cancel_left]; rfl)
              exact ⟨cellAt i0 0 rfl, cellAt i0 1 rfl, cellAt i0 2 rfl, cellAt i0 3 rfl, cellAt i0 4 rfl⟩
            have K23_1 : Hid (∀ W (Q : List Res), Sep w (Q ++ b23_162) W → Calls Tryz.prog 19 #[excZ] W fun e W' => e = .returned (.bool true) ∧ Sep w (Q ++ b23_162) W') := Lib.hid fun W Q T => by
              exact (none_z W).mono fun e W' ⟨e1, e2⟩ => ⟨e1, T.later e2⟩
            have K23_5 : Hid (∀ W (Q : List Res), Sep w (Q ++ b23_162) W → Calls Tryz.prog 19 #[excZ] W fun e W' => e = .returned (.bool true) ∧ Sep w (Q ++ b23_162) W') := Lib.hid fun W Q T => by
              exact (none_z W).mono fun e W' ⟨e1, e2⟩ => ⟨e1, T.later e2⟩
            replace S := Lib.hid S
            clear hb23_162
            go_upto_region 23 with fail
            have S1 : Sep w ([] ++ b23_162) (w162) := by rw [Hb23_162.out]; exact S.out
            clear S
            refine regionL (E := []) (base := b23_162) S1 ?_
            clear S1
            refine quietL (hy := fun E Wx hSw => by ((refine and5 (Cb23_162_2.out _ _ hSw) fun u0 u1 u2 u3 u4 => ?_); go_simp; exact ⟨rfl, hSw⟩)) (h := ?_)
            simp only [Act.put, pa]; try dsimp only [List.set]
            refine quietL (hy := fun E Wx hSw => by (go_simp; exact symCall (K23_1.out _ _ hSw))) (h := ?_)
            simp only [Act.put, pa]; try dsimp only [List.set]
            iterate 2 (refine quietL ?_; simp only [Act.put, pa]; try dsimp only [List.set])
            refine quietL (hy := fun E Wx hSw => by ((refine and5 (Cb23_162_3.out _ _ hSw) fun u0 u1 u2 u3 u4 => ?_); go_simp; exact ⟨rfl, hSw⟩)) (h := ?_)
            simp only [Act.put, pa]; try dsimp only [List.set]
            refine quietL (hy := fun E Wx hSw => by (go_simp; exact symCall (K23_5.out _ _ hSw))) (h := ?_)
            simp only [Act.put, pa]; try dsimp only [List.set]
            iterate 3 (refine quietL ?_; simp only [Act.put, pa]; try dsimp only [List.set])
            refine quietL (hy := fun E Wx hSw => by ((refine and3 (Cb23_162_1.out _ _ hSw) fun u0 u1 u2 => ?_); go_simp; exact ⟨rfl, hSw⟩)) (h := ?_)
            simp only [Act.put, pa]; try dsimp only [List.set]
            refine quietL (hy := fun E Wx hSw => by ((refine and3 (Cb23_162_0.out _ _ hSw) fun u0 u1 u2 => ?_); go_simp; exact ⟨rfl, hSw⟩)) (h := ?_)
            simp only [Act.put, pa]; try dsimp only [List.set]
            iterate 2 (refine quietL ?_; simp only [Act.put, pa]; try dsimp only [List.set])
            intro w164 S
            replace S : Sep w (boxV qa221 x :: boxE qb222 :: boxE qb212 :: heapR h (HD (putL L kk x)) :: boxX qb131 keyError kk.kind kk.n kk.s true :: boxV qa121 y :: boxE qb122 :: boxW qa111 1 1 ⟨#[]⟩ :: boxE qb112 :: boxV qa101 y :: boxV qB1 kk :: boxW qD2 4 1 ⟨#[]⟩ :: boxV q3 x :: []) w164 := by rw [Hb23_162.out] at S; exact S
            clear Hb23_162 Kb23_162 K23_1 K23_5 Cb23_162_0 Cb23_162_1 Cb23_162_2 Cb23_162_3
            replace S : Sep w ([boxV qa221 x, boxE qb222, boxE qb212, boxX qb131 keyError kk.kind kk.n kk.s true, boxV qa121 y, boxE qb122, boxW qa111 1 1 ⟨#[]⟩, boxE qb112, boxV qa101 y, boxV qB1 kk, heapR h (HD (putL L kk x)), boxW qD2 4 1 ⟨#[]⟩, boxV q3 x] ++ []) (w164) := by
              refine (show Sep w ([boxV qa221 x, boxE qb222, boxE qb212, heapR h (HD (putL L kk x)), boxX qb131 keyError kk.kind kk.n kk.s true, boxV qa121 y, boxE qb122, boxW qa111 1 1 ⟨#[]⟩, boxE qb112, boxV qa101 y, boxV qB1 kk, boxW qD2 4 1 ⟨#[]⟩, boxV q3 x] ++ []) _ from S).perm ?_
              exact List.Perm.append_right [] (perm_of (l := [boxV qa221 x, boxE qb222, boxE qb212, heapR h (HD (putL L kk x)), boxX qb131 keyError kk.kind kk.n kk.s true, boxV qa121 y, boxE qb122, boxW qa111 1 1 ⟨#[]⟩, boxE qb112, boxV qa101 y, boxV qB1 kk, boxW qD2 4 1 ⟨#[]⟩, boxV q3 x]) [0, 1, 2, 4, 5, 6, 7, 8, 9, 10, 3, 11, 12] (by show (List.range' 0 13).Perm [0, 1, 2, 4, 5, 6, 7, 8, 9, 10, 3, 11, 12]; decide) (by rfl))
            iterate 10 replace S := S.tail
            replace S : Sep w (heapR h (HD (putL L kk x)) :: boxW qD2 4 1 ⟨#[]⟩ :: boxV q3 x :: []) (w164) := S
            replace S := Lib.hid S
            go_wp2
            exact ⟨⟨k + 1, (putL L kk x), by have := hc1; omega, by omega, by go_num, (Nat.le_trans putL_len (by have := HL.out; omega)), S.out⟩, by simp [intOf]; omega⟩
    · have hz : (k : Int) < l.length → ¬ (k : Int) < 20 := fun a b => hlt ⟨by omega, by omega⟩
      have HLB : Hid (L.length ≤ 20) := Lib.hid (Nat.le_trans hL hk8)
      clear hlt hL hkl hk8 HL HKL HK8 HQ
      go_upto_region 7 with fail
      go_cut [50] (fun s50 wx => s50 = .bool false ∧ Sep w (heapR h (HD L) :: boxW qD2 4 1 ⟨#[]⟩ :: boxV q3 x :: []) wx)
      case first =>
        by_cases g1 : (k : Int) < l.length
        · have g2 : ¬ (k : Int) < 20 := hz g1
          go_wp2_with fail
          go_meet
          exact ⟨rfl, S⟩
        · go_wp2_with fail
          go_meet
          exact ⟨rfl, S⟩
      case rest =>
        as_aux_lemma =>
          obtain ⟨rfl, S⟩ := hcut
          clear hz
          refine named (heapR h (HD L) :: boxW qD2 4 1 ⟨#[]⟩ :: boxV q3 x :: []) fun b25_500 hb25_500 => ?_
          have Hb25_500 := Lib.hid hb25_500
          have Kb25_500 : Hid (∀ W (Q : List Res), Sep w (Q ++ b25_500) W → True) := Lib.hid fun W Q T => by
            rw [hb25_500] at T
            trivial
          have Cb25_500_0 : Hid (∀ W (Q : List Res), Sep w (Q ++ b25_500) W → W.cell? ⟨qD2, 0, none⟩ = some (.int .i64 4) ∧ W.cell? ⟨qD2, 1, none⟩ = some (.int .i64 1) ∧ W.cell? ⟨qD2, 2, none⟩ = some (.string ⟨#[]⟩)) := Lib.hid fun W Q T => by
            rw [hb25_500] at T
            have i0 := T.box (b := qD2) (o := objW 4 1 ⟨#[]⟩) (Q.length + 1) (by rw [List.getElem?_append_right (by omega), Nat.add_sub_cancel_left]; rfl)
            exact ⟨cellAt i0 0 rfl, cellAt i0 1 rfl, cellAt i0 2 rfl⟩
          have K25_3 : Hid (∀ W (Q : List Res), Sep w (Q ++ b25_500) W → Calls Tryz.prog 34 #[.pointer (some ⟨h, 0, none⟩), .agg #[.int .i64 4, .int .i64 1, .string ⟨#[]⟩], .agg #[.int .i64 4, .int .i64 1, .string ⟨#[]⟩]] W fun e W' => e = .returned (.tuple #[zeroV, excN typeError]) ∧ Sep w (Q ++ b25_500) W') := Lib.hid fun W Q T => by
            rw [Hb25_500.out] at T ⊢
            exact d_idx_w T (Q.length + 0) (by rw [List.getElem?_append_right (by omega), Nat.add_sub_cancel_left]; rfl) vD (by decide)
          replace S := Lib.hid S
          clear hb25_500
          go_upto_region 25 with fail
          have S1 : Sep w ([] ++ b25_500) (wc) := by rw [Hb25_500.out]; exact S.out
          clear S
          refine regionL (E := [emptyR, emptyR]) (base := b25_500) (Sep.putE (Sep.putE S1)) ?_
          clear S1
          refine quietL ?_
          simp only [Act.put, pa]; try dsimp only [List.set]
          iterate 2 (refine quietL (hy := fun E Wx hSw => by ((refine and3 (Cb25_500_0.out _ _ hSw) fun u0 u1 u2 => ?_); go_simp; exact ⟨rfl, hSw⟩)) (h := ?_); simp only [Act.put, pa]; try dsimp only [List.set])
          refine quietL (hy := fun E Wx hSw => by (go_simp; exact symCall (K25_3.out _ _ hSw))) (h := ?_)
          simp only [Act.put, pa]; try dsimp only [List.set]
          iterate 3 (refine quietL ?_; simp only [Act.put, pa]; try dsimp only [List.set])
          refine allocL 0 rfl (fun q => .pointer (some ⟨q, 0, none⟩)) (.cells #[.int .i64 0, .int .i64 0, .string ⟨#[]⟩] 29) (h1 := fun Wx => by go_simp) (h2 := fun qa251 => ?_)
          simp only [Act.put, pa]; try dsimp only [List.set]
          try simp only [List.set_cons_zero, List.set_cons_succ]
          refine allocL 1 rfl (fun q => .pointer (some ⟨q, 0, none⟩)) (.cells #[.string ⟨#[]⟩, .int .i64 0, .int .i64 0, .string ⟨#[]⟩, .bool false] 38) (h1 := fun Wx => by go_simp) (h2 := fun qb252 => ?_)
          simp only [Act.put, pa]; try dsimp only [List.set]
          try simp only [List.set_cons_zero, List.set_cons_succ]
          refine detL undef [boxZ qa251, boxE qb252] (h1 := fun Wx hSw => by (have hz := hSw.box (b := qa251) (o := objZ) 0 rfl; refine useZ3 hz fun z0 z1 z2 y0 y1 y2 => ?_; go_simp; exact ⟨rfl, hSw.set3 0 rfl (.int .i64 0) (.int .i64 0) (.string ⟨#[]⟩)⟩)) (h2 := ?_)
          simp only [Act.put, pa]; try dsimp only [List.set]
          refine detL undef [boxZ qa251, boxN qb252 typeError] (h1 := fun Wx hSw => by (have hz := hSw.box (b := qb252) (o := objE) 1 rfl; refine useZ5 hz fun z0 z1 z2 z3 z4 y0 y1 y2 y3 y4 => ?_; go_simp; exact ⟨rfl, hSw.set5 1 rfl (.string typeError) (.int .i64 0) (.int .i64 0) (.string ⟨#[]⟩) (.bool false)⟩)) (h2 := ?_)
          simp only [Act.put, pa]; try dsimp only [List.set]
          intro w502 S
          replace S : Sep w (boxZ qa251 :: boxN qb252 typeError :: heapR h (HD L) :: boxW qD2 4 1 ⟨#[]⟩ :: boxV q3 x :: []) w502 := by rw [Hb25_500.out] at S; exact S
          clear Hb25_500 Kb25_500 K25_3 Cb25_500_0
          refine named (boxZ qa251 :: boxN qb252 typeError :: heapR h (HD L) :: boxW qD2 4 1 ⟨#[]⟩ :: boxV q3 x :: []) fun b26_502 hb26_502 => ?_
          have Hb26_502 := Lib.hid hb26_502
          have Kb26_502 : Hid (∀ W (Q : List Res), Sep w (Q ++ b26_502) W → True) := Lib.hid fun W Q T => by
            rw [hb26_502] at T
            trivial
          have Cb26_502_0 : Hid (∀ W (Q : List Res), Sep w (Q ++ b26_502) W → W.cell? ⟨q3, 0, none⟩ = some (.int .i64 x.kind) ∧ W.cell? ⟨q3, 1, none⟩ = some (.int .i64 x.n) ∧ W.cell? ⟨q3, 2, none⟩ = some (.string x.s)) := Lib.hid fun W Q T => by
            rw [hb26_502] at T
            have i0 := T.box (b := q3) (o := objV x) (Q.length + 4) (by rw [List.getElem?_append_right (by omega), Nat.add_sub_cancel_left]; rfl)
            exact ⟨cellAt i0 0 rfl, cellAt i0 1 rfl, cellAt i0 2 rfl⟩
          have Cb26_502_1 : Hid (∀ W (Q : List Res), Sep w (Q ++ b26_502) W → W.cell? ⟨qD2, 0, none⟩ = some (.int .i64 4) ∧ W.cell? ⟨qD2, 1, none⟩ = some (.int .i64 1) ∧ W.cell? ⟨qD2, 2, none⟩ = some (.string ⟨#[]⟩)) := Lib.hid fun W Q T => by
            rw [hb26_502] at T
            have i0 := T.box (b := qD2) (o := objW 4 1 ⟨#[]⟩) (Q.length + 3) (by rw [List.getElem?_append_right (by omega), Nat.add_sub_cancel_left]; rfl)
            exact ⟨cellAt i0 0 rfl, cellAt i0 1 rfl, cellAt i0 2 rfl⟩
          have K26_4 : Hid (∀ W (Q : List Res), Sep w (Q ++ b26_502) W → Calls Tryz.prog 39 #[.pointer (some ⟨h, 0, none⟩), .agg #[.int .i64 4, .int .i64 1, .string ⟨#[]⟩], .agg #[.int .i64 4, .int .i64 1, .string ⟨#[]⟩], .agg #[.int .i64 x.kind, .int .i64 x.n, .string x.s]] W fun e W' => e = .returned (excN typeError) ∧ Sep w (Q ++ b26_502) W') := Lib.hid fun W Q T => by
            rw [Hb26_502.out] at T ⊢
            exact d_put_w T (Q.length + 2) (by rw [List.getElem?_append_right (by omega), Nat.add_sub_cancel_left]; rfl) (Nat.le_trans HLB.out (by decide)) vD x (by decide)
          replace S := Lib.hid S
          clear hb26_502
          go_upto_region 26 with fail
          have S1 : Sep w ([] ++ b26_502) (w502) := by rw [Hb26_502.out]; exact S.out
          clear S
          refine regionL (E := [emptyR]) (base := b26_502) (Sep.putE S1) ?_
          clear S1
          refine quietL ?_
          simp only [Act.put, pa]; try dsimp only [List.set]
          iterate 2 (refine quietL (hy := fun E Wx hSw => by ((refine and3 (Cb26_502_1.out _ _ hSw) fun u0 u1 u2 => ?_); go_simp; exact ⟨rfl, hSw⟩)) (h := ?_); simp only [Act.put, pa]; try dsimp only [List.set])
          refine quietL (hy := fun E Wx hSw => by ((refine and3 (Cb26_502_0.out _ _ hSw) fun u0 u1 u2 => ?_); go_simp; exact ⟨rfl, hSw⟩)) (h := ?_)
          simp only [Act.put, pa]; try dsimp only [List.set]
          refine quietL (hy := fun E Wx hSw => by (go_simp; exact symCall (K26_4.out _ _ hSw))) (h := ?_)
          simp only [Act.put, pa]; try dsimp only [List.set]
          refine allocL 0 rfl (fun q => .pointer (some ⟨q, 0, none⟩)) (.cells #[.string ⟨#[]⟩, .int .i64 0, .int .i64 0, .string ⟨#[]⟩, .bool false] 38) (h1 := fun Wx => by go_simp) (h2 := fun qb261 => ?_)
          simp only [Act.put, pa]; try dsimp only [List.set]
          try simp only [List.set_cons_zero, List.set_cons_succ]
          refine detL undef [boxN qb261 typeError] (h1 := fun Wx hSw => by (have hz := hSw.box (b := qb261) (o := objE) 0 rfl; refine useZ5 hz fun z0 z1 z2 z3 z4 y0 y1 y2 y3 y4 => ?_; go_simp; exact ⟨rfl, hSw.set5 0 rfl (.string typeError) (.int .i64 0) (.int .i64 0) (.string ⟨#[]⟩) (.bool false)⟩)) (h2 := ?_)
          simp only [Act.put, pa]; try dsimp only [List.set]
          intro w504 S
          replace S : Sep w (boxN qb261 typeError :: boxZ qa251 :: boxN qb252 typeError :: heapR h (HD L) :: boxW qD2 4 1 ⟨#[]⟩ :: boxV q3 x :: []) w504 := by rw [Hb26_502.out] at S; exact S
          clear Hb26_502 Kb26_502 K26_4 Cb26_502_0 Cb26_502_1
          refine named (boxN qb261 typeError :: boxZ qa251 :: boxN qb252 typeError :: heapR h (HD L) :: boxW qD2 4 1 ⟨#[]⟩ :: boxV q3 x :: []) fun b27_504 hb27_504 => ?_
          have Hb27_504 := Lib.hid hb27_504
          have Kb27_504 : Hid (∀ W (Q : List Res), Sep w (Q ++ b27_504) W → True) := Lib.hid fun W Q T => by
            rw [hb27_504] at T
            trivial
          have Cb27_504_0 : Hid (∀ W (Q : List Res), Sep w (Q ++ b27_504) W → W.cell? ⟨qD2, 0, none⟩ = some (.int .i64 4) ∧ W.cell? ⟨qD2, 1, none⟩ = some (.int .i64 1) ∧ W.cell? ⟨qD2, 2, none⟩ = some (.string ⟨#[]⟩)) := Lib.hid fun W Q T => by
            rw [hb27_504] at T
            have i0 := T.box (b := qD2) (o := objW 4 1 ⟨#[]⟩) (Q.length + 4) (by rw [List.getElem?_append_right (by omega), Nat.add_sub_cancel_left]; rfl)
            exact ⟨cellAt i0 0 rfl, cellAt i0 1 rfl, cellAt i0 2 rfl⟩
          have K27_3 : Hid (∀ W (Q : List Res), Sep w (Q ++ b27_504) W → Calls Tryz.prog 40 #[.pointer (some ⟨h, 0, none⟩), .agg #[.int .i64 4, .int .i64 1, .string ⟨#[]⟩], .agg #[.int .i64 4, .int .i64 1, .string ⟨#[]⟩]] W fun e W' => e = .returned (excN typeError) ∧ Sep w (Q ++ b27_504) W') := Lib.hid fun W Q T => by
            rw [Hb27_504.out] at T ⊢
            exact d_rem_w T (Q.length + 3) (by rw [List.getElem?_append_right (by omega), Nat.add_sub_cancel_left]; rfl) (Nat.le_trans HLB.out (by decide)) vD (by decide)
          replace S := Lib.hid S
          clear hb27_504
          go_upto_region 27 with fail
          have S1 : Sep w ([] ++ b27_504) (w504) := by rw [Hb27_504.out]; exact S.out
          clear S
          refine regionL (E := [emptyR]) (base := b27_504) (Sep.putE S1) ?_
          clear S1
          refine quietL ?_
          simp only [Act.put, pa]; try dsimp only [List.set]
          iterate 2 (refine quietL (hy := fun E Wx hSw => by ((refine and3 (Cb27_504_0.out _ _ hSw) fun u0 u1 u2 => ?_); go_simp; exact ⟨rfl, hSw⟩)) (h := ?_); simp only [Act.put, pa]; try dsimp only [List.set])
          refine quietL (hy := fun E Wx hSw => by (go_simp; exact symCall (K27_3.out _ _ hSw))) (h := ?_)
          simp only [Act.put, pa]; try dsimp only [List.set]
          refine allocL 0 rfl (fun q => .pointer (some ⟨q, 0, none⟩)) (.cells #[.string ⟨#[]⟩, .int .i64 0, .int .i64 0, .string ⟨#[]⟩, .bool false] 38) (h1 := fun Wx => by go_simp) (h2 := fun qb271 => ?_)
          simp only [Act.put, pa]; try dsimp only [List.set]
          try simp only [List.set_cons_zero, List.set_cons_succ]
          refine detL undef [boxN qb271 typeError] (h1 := fun Wx hSw => by (have hz := hSw.box (b := qb271) (o := objE) 0 rfl; refine useZ5 hz fun z0 z1 z2 z3 z4 y0 y1 y2 y3 y4 => ?_; go_simp; exact ⟨rfl, hSw.set5 0 rfl (.string typeError) (.int .i64 0) (.int .i64 0) (.string ⟨#[]⟩) (.bool false)⟩)) (h2 := ?_)
          simp only [Act.put, pa]; try dsimp only [List.set]
          intro w506 S
          replace S : Sep w (boxN qb271 typeError :: boxN qb261 typeError :: boxZ qa251 :: boxN qb252 typeError :: heapR h (HD L) :: boxW qD2 4 1 ⟨#[]⟩ :: boxV q3 x :: []) w506 := by rw [Hb27_504.out] at S; exact S
          clear Hb27_504 Kb27_504 K27_3 Cb27_504_0
          refine named (boxN qb271 typeError :: boxN qb261 typeError :: boxZ qa251 :: boxN qb252 typeError :: heapR h (HD L) :: boxW qD2 4 1 ⟨#[]⟩ :: boxV q3 x :: []) fun b28_506 hb28_506 => ?_
          have Hb28_506 := Lib.hid hb28_506
          have Kb28_506 : Hid (∀ W (Q : List Res), Sep w (Q ++ b28_506) W → True) := Lib.hid fun W Q T => by
            rw [hb28_506] at T
            trivial
          have Cb28_506_0 : Hid (∀ W (Q : List Res), Sep w (Q ++ b28_506) W → W.cell? ⟨qD2, 0, none⟩ = some (.int .i64 4) ∧ W.cell? ⟨qD2, 1, none⟩ = some (.int .i64 1) ∧ W.cell? ⟨qD2, 2, none⟩ = some (.string ⟨#[]⟩)) := Lib.hid fun W Q T => by
            rw [hb28_506] at T
            have i0 := T.box (b := qD2) (o := objW 4 1 ⟨#[]⟩) (Q.length + 5) (by rw [List.getElem?_append_right (by omega), Nat.add_sub_cancel_left]; rfl)
            exact ⟨cellAt i0 0 rfl, cellAt i0 1 rfl, cellAt i0 2 rfl⟩
          have K28_3 : Hid (∀ W (Q : List Res), Sep w (Q ++ b28_506) W → Calls Tryz.prog 18 #[.pointer (some ⟨h, 0, none⟩), .string ⟨#[105, 110]⟩, .agg #[.int .i64 4, .int .i64 1, .string ⟨#[]⟩], .agg #[.int .i64 4, .int .i64 1, .string ⟨#[]⟩]] W fun e W' => e = .returned (.tuple #[zeroV, excN typeError]) ∧ Sep w (Q ++ b28_506) W') := Lib.hid fun W Q T => by
            rw [Hb28_506.out] at T ⊢
            exact d_in_w T (Q.length + 4) (by rw [List.getElem?_append_right (by omega), Nat.add_sub_cancel_left]; rfl) vD (by decide)
          replace S := Lib.hid S
          clear hb28_506
          go_upto_region 28 with fail
          have S1 : Sep w ([] ++ b28_506) (w506) := by rw [Hb28_506.out]; exact S.out
          clear S
          refine regionL (E := [emptyR, emptyR]) (base := b28_506) (Sep.putE (Sep.putE S1)) ?_
          clear S1
          refine quietL ?_
          simp only [Act.put, pa]; try dsimp only [List.set]
          iterate 2 (refine quietL (hy := fun E Wx hSw => by ((refine and3 (Cb28_506_0.out _ _ hSw) fun u0 u1 u2 => ?_); go_simp; exact ⟨rfl, hSw⟩)) (h := ?_); simp only [Act.put, pa]; try dsimp only [List.set])
          refine quietL (hy := fun E Wx hSw => by (go_simp; exact symCall (K28_3.out _ _ hSw))) (h := ?_)
          simp only [Act.put, pa]; try dsimp only [List.set]
          iterate 3 (refine quietL ?_; simp only [Act.put, pa]; try dsimp only [List.set])
          refine allocL 0 rfl (fun q => .pointer (some ⟨q, 0, none⟩)) (.cells #[.int .i64 0, .int .i64 0, .string ⟨#[]⟩] 29) (h1 := fun Wx => by go_simp) (h2 := fun qa281 => ?_)
          simp only [Act.put, pa]; try dsimp only [List.set]
          try simp only [List.set_cons_zero, List.set_cons_succ]
          refine allocL 1 rfl (fun q => .pointer (some ⟨q, 0, none⟩)) (.cells #[.string ⟨#[]⟩, .int .i64 0, .int .i64 0, .string ⟨#[]⟩, .bool false] 38) (h1 := fun Wx => by go_simp) (h2 := fun qb282 => ?_)
          simp only [Act.put, pa]; try dsimp only [List.set]
          try simp only [List.set_cons_zero, List.set_cons_succ]
          refine detL undef [boxZ qa281, boxE qb282] (h1 := fun Wx hSw => by (have hz := hSw.box (b := qa281) (o := objZ) 0 rfl; refine useZ3 hz fun z0 z1 z2 y0 y1 y2 => ?_; go_simp; exact ⟨rfl, hSw.set3 0 rfl (.int .i64 0) (.int .i64 0) (.string ⟨#[]⟩)⟩)) (h2 := ?_)
          simp only [Act.put, pa]; try dsimp only [List.set]
          refine detL undef [boxZ qa281, boxN qb282 typeError] (h1 := fun Wx hSw => by (have hz := hSw.box (b := qb282) (o := objE) 1 rfl; refine useZ5 hz fun z0 z1 z2 z3 z4 y0 y1 y2 y3 y4 => ?_; go_simp; exact ⟨rfl, hSw.set5 1 rfl (.string typeError) (.int .i64 0) (.int .i64 0) (.string ⟨#[]⟩) (.bool false)⟩)) (h2 := ?_)
          simp only [Act.put, pa]; try dsimp only [List.set]
          intro w508 S
          replace S : Sep w (boxZ qa281 :: boxN qb282 typeError :: boxN qb271 typeError :: boxN qb261 typeError :: boxZ qa251 :: boxN qb252 typeError :: heapR h (HD L) :: boxW qD2 4 1 ⟨#[]⟩ :: boxV q3 x :: []) w508 := by rw [Hb28_506.out] at S; exact S
          clear Hb28_506 Kb28_506 K28_3 Cb28_506_0
          as_aux_lemma =>
            replace S : Sep w (heapR h (HD L) :: boxZ qa281 :: boxN qb282 typeError :: boxN qb271 typeError :: boxN qb261 typeError :: boxZ qa251 :: boxN qb252 typeError :: boxW qD2 4 1 ⟨#[]⟩ :: boxV q3 x :: []) (w508) := by
              refine (show Sep w ([boxZ qa281, boxN qb282 typeError, boxN qb271 typeError, boxN qb261 typeError, boxZ qa251, boxN qb252 typeError, heapR h (HD L), boxW qD2 4 1 ⟨#[]⟩, boxV q3 x] ++ []) _ from S).perm ?_
              exact List.Perm.append_right [] (perm_of (l := [boxZ qa281, boxN qb282 typeError, boxN qb271 typeError, boxN qb261 typeError, boxZ qa251, boxN qb252 typeError, heapR h (HD L), boxW qD2 4 1 ⟨#[]⟩, boxV q3 x]) [6, 0, 1, 2, 3, 4, 5, 7, 8] (by show (List.range' 0 9).Perm [6, 0, 1, 2, 3, 4, 5, 7, 8]; decide) (by rfl))
            refine named (boxZ qa281 :: boxN qb282 typeError :: boxN qb271 typeError :: boxN qb261 typeError :: boxZ qa251 :: boxN qb252 typeError :: boxW qD2 4 1 ⟨#[]⟩ :: boxV q3 x :: []) fun b29_508 hb29_508 => ?_
            have Hb29_508 := Lib.hid hb29_508
            have Kb29_508 : Hid (∀ W (Q : List Res), Sep w (Q ++ b29_508) W → True) := Lib.hid fun W Q T => by
              rw [hb29_508] at T
              trivial
            have Cb29_508_0 : Hid (∀ W (Q : List Res), Sep w (Q ++ b29_508) W → W.cell? ⟨qD2, 0, none⟩ = some (.int .i64 4) ∧ W.cell? ⟨qD2, 1, none⟩ = some (.int .i64 1) ∧ W.cell? ⟨qD2, 2, none⟩ = some (.string ⟨#[]⟩)) := Lib.hid fun W Q T => by
              rw [hb29_508] at T
              have i0 := T.box (b := qD2) (o := objW 4 1 ⟨#[]⟩) (Q.length + 6) (by rw [List.getElem?_append_right (by omega), Nat.add_sub_cancel_left]; rfl)
              exact ⟨cellAt i0 0 rfl, cellAt i0 1 rfl, cellAt i0 2 rfl⟩
            have K29_2 : Hid (∀ W (Q : List Res), Sep w (Q ++ b29_508) W → Calls Tryz.prog 20 #[.bool true] W fun e W' => e = .returned (.agg #[.int .i64 1, .int .i64 1, .string ⟨#[]⟩]) ∧ Sep w (Q ++ b29_508) W') := Lib.hid fun W Q T => by
              exact (lyes_ok W true).mono fun e W' ⟨e1, e2⟩ => ⟨e1, T.later e2⟩
            have K29_3 : Hid (∀ W (Q : List Res), Sep w (Q ++ b29_508) W → Calls Tryz.prog 16 #[.int .i64 1] W fun e W' => e = .returned (.agg #[.int .i64 2, .int .i64 1, .string ⟨#[]⟩]) ∧ Sep w (Q ++ b29_508) W') := Lib.hid fun W Q T => by
              exact (lnum_ok W 1).mono fun e W' ⟨e1, e2⟩ => ⟨e1, T.later e2⟩
            replace S := Lib.hid S
            clear hb29_508
            go_upto_region 29 with fail
            go_cut [29] (fun s29 wx => ∃ qq0_29, s29 = .pointer (some ⟨qq0_29, 0, none⟩) ∧ Sep w ([boxE qq0_29, heapR h (HD (putL L vT n1))] ++ b29_508) wx)
            case first =>
              have S1 : Sep w ([heapR h (HD L)] ++ b29_508) (w508) := by rw [Hb29_508.out]; exact S.out
              clear S
              refine regionP 4 3 (E := [emptyR, heapR h (HD L)]) (base := b29_508) (Sep.putE S1) ?_
              clear S1
              refine quietP ?_
              simp only [Act.put, pa]; try dsimp only [List.set]
              refine quietP (hy := fun E Wx hSw => by ((refine and3 (Cb29_508_0.out _ _ hSw) fun u0 u1 u2 => ?_); go_simp; exact ⟨rfl, hSw⟩)) (h := ?_)
              simp only [Act.put, pa]; try dsimp only [List.set]
              refine quietP (hy := fun E Wx hSw => by (go_simp; exact symCall (K29_2.out _ _ hSw))) (h := ?_)
              simp only [Act.put, pa]; try dsimp only [List.set]
              refine quietP (hy := fun E Wx hSw => by (go_simp; exact symCall (K29_3.out _ _ hSw))) (h := ?_)
              simp only [Act.put, pa]; try dsimp only [List.set]
              refine endP ?_
              refine readyS [4, 5] ?_
              refine detS (excZ) [emptyR, heapR h (HD (putL L vT n1))] (h1 := fun Wx hSw => by (go_simp; refine symCall ?_; exact d_put hSw 1 rfl (Nat.le_trans HLB.out (by decide)) vT n1 vT_key)) (h2 := ?_) (hs := ?_)
              · simp only [Act.put, pa]; try dsimp only [List.set]
                refine readyS [5] ?_
                refine allocS 0 rfl (fun q => .pointer (some ⟨q, 0, none⟩)) (.cells #[.string ⟨#[]⟩, .int .i64 0, .int .i64 0, .string ⟨#[]⟩, .bool false] 38) (h1 := fun Wx => by go_simp) (h2 := fun qb292 => ?_) (hs := nilS)
                simp only [Act.put, pa]; try dsimp only [List.set]
                try simp only [List.set_cons_zero, List.set_cons_succ]
                refine readyS [6] ?_
                refine detS undef [boxE qb292, heapR h (HD (putL L vT n1))] (h1 := fun Wx hSw => by (have hz := hSw.box (b := qb292) (o := objE) 0 rfl; refine useZ5 hz fun z0 z1 z2 z3 z4 y0 y1 y2 y3 y4 => ?_; go_simp; exact ⟨rfl, hSw.set5 0 rfl (.string ⟨#[]⟩) (.int .i64 0) (.int .i64 0) (.string ⟨#[]⟩) (.bool false)⟩)) (h2 := ?_) (hs := nilS)
                simp only [Act.put, pa]; try dsimp only [List.set]
                refine doneS (h := fun w510 S => ?_)
                go_wp2_with fail
                as_aux_lemma => (go_meet; exact ⟨_, rfl, S⟩)
              refine allocS 0 rfl (fun q => .pointer (some ⟨q, 0, none⟩)) (.cells #[.string ⟨#[]⟩, .int .i64 0, .int .i64 0, .string ⟨#[]⟩, .bool false] 38) (h1 := fun Wx => by go_simp) (h2 := fun qb294 => ?_) (hs := ?_)
              · simp only [Act.put, pa]; try dsimp only [List.set]
                try simp only [List.set_cons_zero, List.set_cons_succ]
                refine readyS [4] ?_
                refine detS (excZ) [boxE qb294, heapR h (HD (putL L vT n1))] (h1 := fun Wx hSw => by (go_simp; refine symCall ?_; exact d_put hSw 1 rfl (Nat.le_trans HLB.out (by decide)) vT n1 vT_key)) (h2 := ?_) (hs := nilS)
                simp only [Act.put, pa]; try dsimp only [List.set]
                refine readyS [6] ?_
                refine detS undef [boxE qb294, heapR h (HD (putL L vT n1))] (h1 := fun Wx hSw => by (have hz := hSw.box (b := qb294) (o := objE) 0 rfl; refine useZ5 hz fun z0 z1 z2 z3 z4 y0 y1 y2 y3 y4 => ?_; go_simp; exact ⟨rfl, hSw.set5 0 rfl (.string ⟨#[]⟩) (.int .i64 0) (.int .i64 0) (.string ⟨#[]⟩) (.bool false)⟩)) (h2 := ?_) (hs := nilS)
                simp only [Act.put, pa]; try dsimp only [List.set]
                refine doneS (h := fun w510 S => ?_)
                go_wp2_with fail
                as_aux_lemma => (go_meet; exact ⟨_, rfl, S⟩)
              exact nilS
            case rest =>
              obtain ⟨qq0_29, rfl, S⟩ := hcut
              replace S : Sep w (boxE qq0_29 :: heapR h (HD (putL L vT n1)) :: boxZ qa281 :: boxN qb282 typeError :: boxN qb271 typeError :: boxN qb261 typeError :: boxZ qa251 :: boxN qb252 typeError :: boxW qD2 4 1 ⟨#[]⟩ :: boxV q3 x :: []) wc := by rw [Hb29_508.out] at S; exact S
              clear Hb29_508 Kb29_508 K29_2 K29_3 Cb29_508_0
              replace S : Sep w (heapR h (HD (putL L vT n1)) :: boxE qq0_29 :: boxZ qa281 :: boxN qb282 typeError :: boxN qb271 typeError :: boxN qb261 typeError :: boxZ qa251 :: boxN qb252 typeError :: boxW qD2 4 1 ⟨#[]⟩ :: boxV q3 x :: []) (wc) := by
                refine (show Sep w ([boxE qq0_29, heapR h (HD (putL L vT n1)), boxZ qa281, boxN qb282 typeError, boxN qb271 typeError, boxN qb261 typeError, boxZ qa251, boxN qb252 typeError, boxW qD2 4 1 ⟨#[]⟩, boxV q3 x] ++ []) _ from S).perm ?_
                exact List.Perm.append_right [] (perm_of (l := [boxE qq0_29, heapR h (HD (putL L vT n1)), boxZ qa281, boxN qb282 typeError, boxN qb271 typeError, boxN qb261 typeError, boxZ qa251, boxN qb252 typeError, boxW qD2 4 1 ⟨#[]⟩, boxV q3 x]) [1, 0, 2, 3, 4, 5, 6, 7, 8, 9] (by show (List.range' 0 10).Perm [1, 0, 2, 3, 4, 5, 6, 7, 8, 9]; decide) (by rfl))
              refine named (boxE qq0_29 :: boxZ qa281 :: boxN qb282 typeError :: boxN qb271 typeError :: boxN qb261 typeError :: boxZ qa251 :: boxN qb252 typeError :: boxW qD2 4 1 ⟨#[]⟩ :: boxV q3 x :: []) fun b30_510 hb30_510 => ?_
              have Hb30_510 := Lib.hid hb30_510
              have Kb30_510 : Hid (∀ W (Q : List Res), Sep w (Q ++ b30_510) W → True) := Lib.hid fun W Q T => by
                rw [hb30_510] at T
                trivial
              have Cb30_510_0 : Hid (∀ W (Q : List Res), Sep w (Q ++ b30_510) W → W.cell? ⟨qD2, 0, none⟩ = some (.int .i64 4) ∧ W.cell? ⟨qD2, 1, none⟩ = some (.int .i64 1) ∧ W.cell? ⟨qD2, 2, none⟩ = some (.string ⟨#[]⟩)) := Lib.hid fun W Q T => by
                rw [hb30_510] at T
                have i0 := T.box (b := qD2) (o := objW 4 1 ⟨#[]⟩) (Q.length + 7) (by rw [List.getElem?_append_right (by omega), Nat.add_sub_cancel_left]; rfl)
                exact ⟨cellAt i0 0 rfl, cellAt i0 1 rfl, cellAt i0 2 rfl⟩
              have K30_2 : Hid (∀ W (Q : List Res), Sep w (Q ++ b30_510) W → Calls Tryz.prog 16 #[.int .i64 1] W fun e W' => e = .returned (.agg #[.int .i64 2, .int .i64 1, .string ⟨#[]⟩]) ∧ Sep w (Q ++ b30_510) W') := Lib.hid fun W Q T => by
                exact (lnum_ok W 1).mono fun e W' ⟨e1, e2⟩ => ⟨e1, T.later e2⟩
              have K30_3 : Hid (∀ W (Q : List Res), Sep w (Q ++ b30_510) W → Calls Tryz.prog 16 #[.int .i64 2] W fun e W' => e = .returned (.agg #[.int .i64 2, .int .i64 2, .string ⟨#[]⟩]) ∧ Sep w (Q ++ b30_510) W') := Lib.hid fun W Q T => by
                exact (lnum_ok W 2).mono fun e W' ⟨e1, e2⟩ => ⟨e1, T.later e2⟩
              replace S := Lib.hid S
              clear hb30_510
              go_upto_region 30 with fail
              go_cut [30] (fun s30 wx => ∃ qq0_30, s30 = .pointer (some ⟨qq0_30, 0, none⟩) ∧ Sep w ([boxE qq0_30, heapR h (HD (putL (putL L vT n1) n1 n2))] ++ b30_510) wx)
              case first =>
                have S1 : Sep w ([heapR h (HD (putL L vT n1))] ++ b30_510) (wc) := by rw [Hb30_510.out]; exact S.out
                clear S
                refine regionP 4 3 (E := [emptyR, heapR h (HD (putL L vT n1))]) (base := b30_510) (Sep.putE S1) ?_
                clear S1
                refine quietP ?_
                simp only [Act.put, pa]; try dsimp only [List.set]
                refine quietP (hy := fun E Wx hSw => by ((refine and3 (Cb30_510_0.out _ _ hSw) fun u0 u1 u2 => ?_); go_simp; exact ⟨rfl, hSw⟩)) (h := ?_)
                simp only [Act.put, pa]; try dsimp only [List.set]
                refine quietP (hy := fun E Wx hSw => by (go_simp; exact symCall (K30_2.out _ _ hSw))) (h := ?_)
                simp only [Act.put, pa]; try dsimp only [List.set]
                refine quietP (hy := fun E Wx hSw => by (go_simp; exact symCall (K30_3.out _ _ hSw))) (h := ?_)
                simp only [Act.put, pa]; try dsimp only [List.set]
                refine endP ?_
                refine readyS [4, 5] ?_
                refine detS (excZ) [emptyR, heapR h (HD (putL (putL L vT n1) n1 n2))] (h1 := fun Wx hSw => by (go_simp; refine symCall ?_; exact d_put hSw 1 rfl (Nat.le_trans putL_len (Nat.succ_le_succ (Nat.le_trans HLB.out (by decide)))) n1 n2 (vI_key _ _))) (h2 := ?_) (hs := ?_)
                · simp only [Act.put, pa]; try dsimp only [List.set]
                  refine readyS [5] ?_
                  refine allocS 0 rfl (fun q => .pointer (some ⟨q, 0, none⟩)) (.cells #[.string ⟨#[]⟩, .int .i64 0, .int .i64 0, .string ⟨#[]⟩, .bool false] 38) (h1 := fun Wx => by go_simp) (h2 := fun qb302 => ?_) (hs := nilS)
                  simp only [Act.put, pa]; try dsimp only [List.set]
                  try simp only [List.set_cons_zero, List.set_cons_succ]
                  refine readyS [6] ?_
                  refine detS undef [boxE qb302, heapR h (HD (putL (putL L vT n1) n1 n2))] (h1 := fun Wx hSw => by (have hz := hSw.box (b := qb302) (o := objE) 0 rfl; refine useZ5 hz fun z0 z1 z2 z3 z4 y0 y1 y2 y3 y4 => ?_; go_simp; exact ⟨rfl, hSw.set5 0 rfl (.string ⟨#[]⟩) (.int .i64 0) (.int .i64 0) (.string ⟨#[]⟩) (.bool false)⟩)) (h2 := ?_) (hs := nilS)
                  simp only [Act.put, pa]; try dsimp only [List.set]
                  refine doneS (h := fun w512 S => ?_)
                  go_wp2_with fail
                  as_aux_lemma => (go_meet; exact ⟨_, rfl, S⟩)
                refine allocS 0 rfl (fun q => .pointer (some ⟨q, 0, none⟩)) (.cells #[.string ⟨#[]⟩, .int .i64 0, .int .i64 0, .string ⟨#[]⟩, .bool false] 38) (h1 := fun Wx => by go_simp) (h2 := fun qb304 => ?_) (hs := ?_)
                · simp only [Act.put, pa]; try dsimp only [List.set]
                  try simp only [List.set_cons_zero, List.set_cons_succ]
                  refine readyS [4] ?_
                  refine detS (excZ) [boxE qb304, heapR h (HD (putL (putL L vT n1) n1 n2))] (h1 := fun Wx hSw => by (go_simp; refine symCall ?_; exact d_put hSw 1 rfl (Nat.le_trans putL_len (Nat.succ_le_succ (Nat.le_trans HLB.out (by decide)))) n1 n2 (vI_key _ _))) (h2 := ?_) (hs := nilS)
                  simp only [Act.put, pa]; try dsimp only [List.set]
                  refine readyS [6] ?_
                  refine detS undef [boxE qb304, heapR h (HD (putL (putL L vT n1) n1 n2))] (h1 := fun Wx hSw => by (have hz := hSw.box (b := qb304) (o := objE) 0 rfl; refine useZ5 hz fun z0 z1 z2 z3 z4 y0 y1 y2 y3 y4 => ?_; go_simp; exact ⟨rfl, hSw.set5 0 rfl (.string ⟨#[]⟩) (.int .i64 0) (.int .i64 0) (.string ⟨#[]⟩) (.bool false)⟩)) (h2 := ?_) (hs := nilS)
                  simp only [Act.put, pa]; try dsimp only [List.set]
                  refine doneS (h := fun w512 S => ?_)
                  go_wp2_with fail
                  as_aux_lemma => (go_meet; exact ⟨_, rfl, S⟩)
                exact nilS
              case rest =>
                obtain ⟨qq0_30, rfl, S⟩ := hcut
                replace S : Sep w (boxE qq0_30 :: heapR h (HD (putL (putL L vT n1) n1 n2)) :: boxE qq0_29 :: boxZ qa281 :: boxN qb282 typeError :: boxN qb271 typeError :: boxN qb261 typeError :: boxZ qa251 :: boxN qb252 typeError :: boxW qD2 4 1 ⟨#[]⟩ :: boxV q3 x :: []) wc := by rw [Hb30_510.out] at S; exact S
                clear Hb30_510 Kb30_510 K30_2 K30_3 Cb30_510_0
                have HG3 : Hid (getL (putL (putL L vT n1) n1 n2) vT = some n1) := Lib.hid (by rw [getL_putL, if_neg (by decide), getL_putL, if_pos rfl])
                refine named (boxE qq0_30 :: heapR h (HD (putL (putL L vT n1) n1 n2)) :: boxE qq0_29 :: boxZ qa281 :: boxN qb282 typeError :: boxN qb271 typeError :: boxN qb261 typeError :: boxZ qa251 :: boxN qb252 typeError :: boxW qD2 4 1 ⟨#[]⟩ :: boxV q3 x :: []) fun b31_512 hb31_512 => ?_
                have Hb31_512 := Lib.hid hb31_512
                have Kb31_512 : Hid (∀ W (Q : List Res), Sep w (Q ++ b31_512) W → True) := Lib.hid fun W Q T => by
                  rw [hb31_512] at T
                  trivial
                have Cb31_512_0 : Hid (∀ W (Q : List Res), Sep w (Q ++ b31_512) W → W.cell? ⟨qD2, 0, none⟩ = some (.int .i64 4) ∧ W.cell? ⟨qD2, 1, none⟩ = some (.int .i64 1) ∧ W.cell? ⟨qD2, 2, none⟩ = some (.string ⟨#[]⟩)) := Lib.hid fun W Q T => by
                  rw [hb31_512] at T
                  have i0 := T.box (b := qD2) (o := objW 4 1 ⟨#[]⟩) (Q.length + 9) (by rw [List.getElem?_append_right (by omega), Nat.add_sub_cancel_left]; rfl)
                  exact ⟨cellAt i0 0 rfl, cellAt i0 1 rfl, cellAt i0 2 rfl⟩
                have K31_2 : Hid (∀ W (Q : List Res), Sep w (Q ++ b31_512) W → Calls Tryz.prog 20 #[.bool true] W fun e W' => e = .returned (.agg #[.int .i64 1, .int .i64 1, .string ⟨#[]⟩]) ∧ Sep w (Q ++ b31_512) W') := Lib.hid fun W Q T => by
                  exact (lyes_ok W true).mono fun e W' ⟨e1, e2⟩ => ⟨e1, T.later e2⟩
                have K31_3 : Hid (∀ W (Q : List Res), Sep w (Q ++ b31_512) W → Calls Tryz.prog 34 #[.pointer (some ⟨h, 0, none⟩), .agg #[.int .i64 4, .int .i64 1, .string ⟨#[]⟩], .agg #[.int .i64 1, .int .i64 1, .string ⟨#[]⟩]] W fun e W' => e = .returned (.tuple #[.agg #[.int .i64 2, .int .i64 1, .string ⟨#[]⟩], excZ]) ∧ Sep w (Q ++ b31_512) W') := Lib.hid fun W Q T => by
                  rw [Hb31_512.out] at T ⊢
                  exact d_idx T (Q.length + 1) (by rw [List.getElem?_append_right (by omega), Nat.add_sub_cancel_left]; rfl) vT n1 vT_key HG3.out
                replace S := Lib.hid S
                clear hb31_512
                go_upto_region 31 with fail
                go_cut [31, 32] (fun s31 s32 wx => ∃ qq0_31 qq1_31, s31 = .pointer (some ⟨qq0_31, 0, none⟩) ∧ s32 = .pointer (some ⟨qq1_31, 0, none⟩) ∧ Sep w ([boxW qq0_31 2 1 ⟨#[]⟩, boxE qq1_31] ++ b31_512) wx)
                case first =>
                  have S1 : Sep w ([] ++ b31_512) (wc) := by rw [Hb31_512.out]; exact S.out
                  clear S
                  refine regionP 7 4 (E := [emptyR, emptyR]) (base := b31_512) (Sep.putE (Sep.putE S1)) ?_
                  clear S1
                  refine quietP ?_
                  simp only [Act.put, pa]; try dsimp only [List.set]
                  refine quietP (hy := fun E Wx hSw => by ((refine and3 (Cb31_512_0.out _ _ hSw) fun u0 u1 u2 => ?_); go_simp; exact ⟨rfl, hSw⟩)) (h := ?_)
                  simp only [Act.put, pa]; try dsimp only [List.set]
                  refine quietP (hy := fun E Wx hSw => by (go_simp; exact symCall (K31_2.out _ _ hSw))) (h := ?_)
                  simp only [Act.put, pa]; try dsimp only [List.set]
                  refine quietP (hy := fun E Wx hSw => by (go_simp; exact symCall (K31_3.out _ _ hSw))) (h := ?_)
                  simp only [Act.put, pa]; try dsimp only [List.set]
                  iterate 3 (refine quietP ?_; simp only [Act.put, pa]; try dsimp only [List.set])
                  refine endP ?_
                  refine readyS [7, 8] ?_
                  refine allocS 0 rfl (fun q => .pointer (some ⟨q, 0, none⟩)) (.cells #[.int .i64 0, .int .i64 0, .string ⟨#[]⟩] 29) (h1 := fun Wx => by go_simp) (h2 := fun qa311 => ?_) (hs := ?_)
                  · simp only [Act.put, pa]; try dsimp only [List.set]
                    try simp only [List.set_cons_zero, List.set_cons_succ]
                    refine readyS [8] ?_
                    refine allocS 1 rfl (fun q => .pointer (some ⟨q, 0, none⟩)) (.cells #[.string ⟨#[]⟩, .int .i64 0, .int .i64 0, .string ⟨#[]⟩, .bool false] 38) (h1 := fun Wx => by go_simp) (h2 := fun qb312 => ?_) (hs := nilS)
                    simp only [Act.put, pa]; try dsimp only [List.set]
                    try simp only [List.set_cons_zero, List.set_cons_succ]
                    refine readyS [9] ?_
                    refine detS undef [boxW qa311 2 1 ⟨#[]⟩, boxE qb312] (h1 := fun Wx hSw => by (have hz := hSw.box (b := qa311) (o := objZ) 0 rfl; refine useZ3 hz fun z0 z1 z2 y0 y1 y2 => ?_; go_simp; exact ⟨rfl, hSw.set3 0 rfl (.int .i64 2) (.int .i64 1) (.string ⟨#[]⟩)⟩)) (h2 := ?_) (hs := nilS)
                    simp only [Act.put, pa]; try dsimp only [List.set]
                    refine readyS [10] ?_
                    refine detS undef [boxW qa311 2 1 ⟨#[]⟩, boxE qb312] (h1 := fun Wx hSw => by (have hz := hSw.box (b := qb312) (o := objE) 1 rfl; refine useZ5 hz fun z0 z1 z2 z3 z4 y0 y1 y2 y3 y4 => ?_; go_simp; exact ⟨rfl, hSw.set5 1 rfl (.string ⟨#[]⟩) (.int .i64 0) (.int .i64 0) (.string ⟨#[]⟩) (.bool false)⟩)) (h2 := ?_) (hs := nilS)
                    simp only [Act.put, pa]; try dsimp only [List.set]
                    refine doneS (h := fun w514 S => ?_)
                    go_wp2_with fail
                    as_aux_lemma => (go_meet; exact ⟨_, _, rfl, rfl, S⟩)
                  refine allocS 1 rfl (fun q => .pointer (some ⟨q, 0, none⟩)) (.cells #[.string ⟨#[]⟩, .int .i64 0, .int .i64 0, .string ⟨#[]⟩, .bool false] 38) (h1 := fun Wx => by go_simp) (h2 := fun qb315 => ?_) (hs := ?_)
                  · simp only [Act.put, pa]; try dsimp only [List.set]
                    try simp only [List.set_cons_zero, List.set_cons_succ]
                    refine readyS [7] ?_
                    refine allocS 0 rfl (fun q => .pointer (some ⟨q, 0, none⟩)) (.cells #[.int .i64 0, .int .i64 0, .string ⟨#[]⟩] 29) (h1 := fun Wx => by go_simp) (h2 := fun qa316 => ?_) (hs := nilS)
                    simp only [Act.put, pa]; try dsimp only [List.set]
                    try simp only [List.set_cons_zero, List.set_cons_succ]
                    refine readyS [9] ?_
                    refine detS undef [boxW qa316 2 1 ⟨#[]⟩, boxE qb315] (h1 := fun Wx hSw => by (have hz := hSw.box (b := qa316) (o := objZ) 0 rfl; refine useZ3 hz fun z0 z1 z2 y0 y1 y2 => ?_; go_simp; exact ⟨rfl, hSw.set3 0 rfl (.int .i64 2) (.int .i64 1) (.string ⟨#[]⟩)⟩)) (h2 := ?_) (hs := nilS)
                    simp only [Act.put, pa]; try dsimp only [List.set]
                    refine readyS [10] ?_
                    refine detS undef [boxW qa316 2 1 ⟨#[]⟩, boxE qb315] (h1 := fun Wx hSw => by (have hz := hSw.box (b := qb315) (o := objE) 1 rfl; refine useZ5 hz fun z0 z1 z2 z3 z4 y0 y1 y2 y3 y4 => ?_; go_simp; exact ⟨rfl, hSw.set5 1 rfl (.string ⟨#[]⟩) (.int .i64 0) (.int .i64 0) (.string ⟨#[]⟩) (.bool false)⟩)) (h2 := ?_) (hs := nilS)
                    simp only [Act.put, pa]; try dsimp only [List.set]
                    refine doneS (h := fun w514 S => ?_)
                    go_wp2_with fail
                    as_aux_lemma => (go_meet; exact ⟨_, _, rfl, rfl, S⟩)
                  exact nilS
                case rest =>
                  obtain ⟨qq0_31, qq1_31, rfl, rfl, S⟩ := hcut
                  replace S : Sep w (boxW qq0_31 2 1 ⟨#[]⟩ :: boxE qq1_31 :: boxE qq0_30 :: heapR h (HD (putL (putL L vT n1) n1 n2)) :: boxE qq0_29 :: boxZ qa281 :: boxN qb282 typeError :: boxN qb271 typeError :: boxN qb261 typeError :: boxZ qa251 :: boxN qb252 typeError :: boxW qD2 4 1 ⟨#[]⟩ :: boxV q3 x :: []) wc := by rw [Hb31_512.out] at S; exact S
                  clear Hb31_512 Kb31_512 K31_2 K31_3 Cb31_512_0
                  refine named (boxW qq0_31 2 1 ⟨#[]⟩ :: boxE qq1_31 :: boxE qq0_30 :: heapR h (HD (putL (putL L vT n1) n1 n2)) :: boxE qq0_29 :: boxZ qa281 :: boxN qb282 typeError :: boxN qb271 typeError :: boxN qb261 typeError :: boxZ qa251 :: boxN qb252 typeError :: boxW qD2 4 1 ⟨#[]⟩ :: boxV q3 x :: []) fun b32_514 hb32_514 => ?_
                  have Hb32_514 := Lib.hid hb32_514
                  have Kb32_514 : Hid (∀ W (Q : List Res), Sep w (Q ++ b32_514) W → True) := Lib.hid fun W Q T => by
                    rw [hb32_514] at T
                    trivial
                  have Cb32_514_0 : Hid (∀ W (Q : List Res), Sep w (Q ++ b32_514) W → W.cell? ⟨qb252, 0, none⟩ = some (.string typeError) ∧ W.cell? ⟨qb252, 1, none⟩ = some (.int .i64 0) ∧ W.cell? ⟨qb252, 2, none⟩ = some (.int .i64 0) ∧ W.cell? ⟨qb252, 3, none⟩ = some (.string ⟨#[]⟩) ∧ W.cell? ⟨qb252, 4, none⟩ = some (.bool false)) := Lib.hid fun W Q T => by
                    rw [hb32_514] at T
                    have i0 := T.box (b := qb252) (o := objN typeError) (Q.length + 10) (by rw [List.getElem?_append_right (by omega), Nat.add_sub_cancel_left]; rfl)
                    exact ⟨cellAt i0 0 rfl, cellAt i0 1 rfl, cellAt i0 2 rfl, cellAt i0 3 rfl, cellAt i0 4 rfl⟩
                  have Cb32_514_1 : Hid (∀ W (Q : List Res), Sep w (Q ++ b32_514) W → W.cell? ⟨qb261, 0, none⟩ = some (.string typeError) ∧ W.cell? ⟨qb261, 1, none⟩ = some (.int .i64 0) ∧ W.cell? ⟨qb261, 2, none⟩ = some (.int .i64 0) ∧ W.cell? ⟨qb261, 3, none⟩ = some (.string ⟨#[]⟩) ∧ W.cell? ⟨qb261, 4, none⟩ = some (.bool false)) := Lib.hid fun W Q T => by
                    rw [hb32_514] at T
                    have i0 := T.box (b := qb261) (o := objN typeError) (Q.length + 8) (by rw [List.getElem?_append_right (by omega), Nat.add_sub_cancel_left]; rfl)
                    exact ⟨cellAt i0 0 rfl, cellAt i0 1 rfl, cellAt i0 2 rfl, cellAt i0 3 rfl, cellAt i0 4 rfl⟩
                  have Cb32_514_2 : Hid (∀ W (Q : List Res), Sep w (Q ++ b32_514) W → W.cell? ⟨qb271, 0, none⟩ = some (.string typeError) ∧ W.cell? ⟨qb271, 1, none⟩ = some (.int .i64 0) ∧ W.cell? ⟨qb271, 2, none⟩ = some (.int .i64 0) ∧ W.cell? ⟨qb271, 3, none⟩ = some (.string ⟨#[]⟩) ∧ W.cell? ⟨qb271, 4, none⟩ = some (.bool false)) := Lib.hid fun W Q T => by
                    rw [hb32_514] at T
                    have i0 := T.box (b := qb271) (o := objN typeError) (Q.length + 7) (by rw [List.getElem?_append_right (by omega), Nat.add_sub_cancel_left]; rfl)
                    exact ⟨cellAt i0 0 rfl, cellAt i0 1 rfl, cellAt i0 2 rfl, cellAt i0 3 rfl, cellAt i0 4 rfl⟩
                  have Cb32_514_3 : Hid (∀ W (Q : List Res), Sep w (Q ++ b32_514) W → W.cell? ⟨qb282, 0, none⟩ = some (.string typeError) ∧ W.cell? ⟨qb282, 1, none⟩ = some (.int .i64 0) ∧ W.cell? ⟨qb282, 2, none⟩ = some (.int .i64 0) ∧ W.cell? ⟨qb282, 3, none⟩ = some (.string ⟨#[]⟩) ∧ W.cell? ⟨qb282, 4, none⟩ = some (.bool false)) := Lib.hid fun W Q T => by
                    rw [hb32_514] at T
                    have i0 := T.box (b := qb282) (o := objN typeError) (Q.length + 6) (by rw [List.getElem?_append_right (by omega), Nat.add_sub_cancel_left]; rfl)
                    exact ⟨cellAt i0 0 rfl, cellAt i0 1 rfl, cellAt i0 2 rfl, cellAt i0 3 rfl, cellAt i0 4 rfl⟩
                  have Cb32_514_4 : Hid (∀ W (Q : List Res), Sep w (Q ++ b32_514) W → W.cell? ⟨qq0_29, 0, none⟩ = some (.string ⟨#[]⟩) ∧ W.cell? ⟨qq0_29, 1, none⟩ = some (.int .i64 0) ∧ W.cell? ⟨qq0_29, 2, none⟩ = some (.int .i64 0) ∧ W.cell? ⟨qq0_29, 3, none⟩ = some (.string ⟨#[]⟩) ∧ W.cell? ⟨qq0_29, 4, none⟩ = some (.bool false)) := Lib.hid fun W Q T => by
                    rw [hb32_514] at T
                    have i0 := T.box (b := qq0_29) (o := objE) (Q.length + 4) (by rw [List.getElem?_append_right (by omega), Nat.add_sub_cancel_left]; rfl)
                    exact ⟨cellAt i0 0 rfl, cellAt i0 1 rfl, cellAt i0 2 rfl, cellAt i0 3 rfl, cellAt i0 4 rfl⟩
                  have Cb32_514_5 : Hid (∀ W (Q : List Res), Sep w (Q ++ b32_514) W → W.cell? ⟨qq0_30, 0, none⟩ = some (.string ⟨#[]⟩) ∧ W.cell? ⟨qq0_30, 1, none⟩ = some (.int .i64 0) ∧ W.cell? ⟨qq0_30, 2, none⟩ = some (.int .i64 0) ∧ W.cell? ⟨qq0_30, 3, none⟩ = some (.string ⟨#[]⟩) ∧ W.cell? ⟨qq0_30, 4, none⟩ = some (.bool false)) := Lib.hid fun W Q T => by
                    rw [hb32_514] at T
                    have i0 := T.box (b := qq0_30) (o := objE) (Q.length + 2) (by rw [List.getElem?_append_right (by omega), Nat.add_sub_cancel_left]; rfl)
                    exact ⟨cellAt i0 0 rfl, cellAt i0 1 rfl, cellAt i0 2 rfl, cellAt i0 3 rfl, cellAt i0 4 rfl⟩
                  have Cb32_514_6 : Hid (∀ W (Q : List Res), Sep w (Q ++ b32_514) W → W.cell? ⟨qq0_31, 0, none⟩ = some (.int .i64 2) ∧ W.cell? ⟨qq0_31, 1, none⟩ = some (.int .i64 1) ∧ W.cell? ⟨qq0_31, 2, none⟩ = some (.string ⟨#[]⟩)) := Lib.hid fun W Q T => by
                    rw [hb32_514] at T
                    have i0 := T.box (b := qq0_31) (o := objW 2 1 ⟨#[]⟩) (Q.length + 0) (by rw [List.getElem?_append_right (by omega), Nat.add_sub_cancel_left]; rfl)
                    exact ⟨cellAt i0 0 rfl, cellAt i0 1 rfl, cellAt i0 2 rfl⟩
                  have Cb32_514_7 : Hid (∀ W (Q : List Res), Sep w (Q ++ b32_514) W → W.cell? ⟨qq1_31, 0, none⟩ = some (.string ⟨#[]⟩) ∧ W.cell? ⟨qq1_31, 1, none⟩ = some (.int .i64 0) ∧ W.cell? ⟨qq1_31, 2, none⟩ = some (.int .i64 0) ∧ W.cell? ⟨qq1_31, 3, none⟩ = some (.string ⟨#[]⟩) ∧ W.cell? ⟨qq1_31, 4, none⟩ = some (.bool false)) := Lib.hid fun W Q T => by
                    rw [hb32_514] at T
                    have i0 := T.box (b := qq1_31) (o := objE) (Q.length + 1) (by rw [List.getElem?_append_right (by omega), Nat.add_sub_cancel_left]; rfl)
                    exact ⟨cellAt i0 0 rfl, cellAt i0 1 rfl, cellAt i0 2 rfl, cellAt i0 3 rfl, cellAt i0 4 rfl⟩
                  have K32_1 : Hid (∀ W (Q : List Res), Sep w (Q ++ b32_514) W → Calls Tryz.prog 21 #[excN typeError, .string typeError] W fun e W' => e = .returned (.bool true) ∧ Sep w (Q ++ b32_514) W') := Lib.hid fun W Q T => by
                    exact (raised_type W).mono fun e W' ⟨e1, e2⟩ => ⟨e1, T.later e2⟩
                  have K32_4 : Hid (∀ W (Q : List Res), Sep w (Q ++ b32_514) W → Calls Tryz.prog 21 #[excN typeError, .string typeError] W fun e W' => e = .returned (.bool true) ∧ Sep w (Q ++ b32_514) W') := Lib.hid fun W Q T => by
                    exact (raised_type W).mono fun e W' ⟨e1, e2⟩ => ⟨e1, T.later e2⟩
                  have K32_8 : Hid (∀ W (Q : List Res), Sep w (Q ++ b32_514) W → Calls Tryz.prog 21 #[excN typeError, .string typeError] W fun e W' => e = .returned (.bool true) ∧ Sep w (Q ++ b32_514) W') := Lib.hid fun W Q T => by
                    exact (raised_type W).mono fun e W' ⟨e1, e2⟩ => ⟨e1, T.later e2⟩
                  have K32_12 : Hid (∀ W (Q : List Res), Sep w (Q ++ b32_514) W → Calls Tryz.prog 21 #[excN typeError, .string typeError] W fun e W' => e = .returned (.bool true) ∧ Sep w (Q ++ b32_514) W') := Lib.hid fun W Q T => by
                    exact (raised_type W).mono fun e W' ⟨e1, e2⟩ => ⟨e1, T.later e2⟩
                  have K32_16 : Hid (∀ W (Q : List Res), Sep w (Q ++ b32_514) W → Calls Tryz.prog 19 #[excZ] W fun e W' => e = .returned (.bool true) ∧ Sep w (Q ++ b32_514) W') := Lib.hid fun W Q T => by
                    exact (none_z W).mono fun e W' ⟨e1, e2⟩ => ⟨e1, T.later e2⟩
                  have K32_20 : Hid (∀ W (Q : List Res), Sep w (Q ++ b32_514) W → Calls Tryz.prog 19 #[excZ] W fun e W' => e = .returned (.bool true) ∧ Sep w (Q ++ b32_514) W') := Lib.hid fun W Q T => by
                    exact (none_z W).mono fun e W' ⟨e1, e2⟩ => ⟨e1, T.later e2⟩
                  have K32_24 : Hid (∀ W (Q : List Res), Sep w (Q ++ b32_514) W → Calls Tryz.prog 19 #[excZ] W fun e W' => e = .returned (.bool true) ∧ Sep w (Q ++ b32_514) W') := Lib.hid fun W Q T => by
                    exact (none_z W).mono fun e W' ⟨e1, e2⟩ => ⟨e1, T.later e2⟩
                  have K32_28 : Hid (∀ W (Q : List Res), Sep w (Q ++ b32_514) W → Calls Tryz.prog 16 #[.int .i64 1] W fun e W' => e = .returned (.agg #[.int .i64 2, .int .i64 1, .string ⟨#[]⟩]) ∧ Sep w (Q ++ b32_514) W') := Lib.hid fun W Q T => by
                    exact (lnum_ok W 1).mono fun e W' ⟨e1, e2⟩ => ⟨e1, T.later e2⟩
                  replace S := Lib.hid S
                  clear hb32_514
                  go_upto_region 32 with fail
                  have S1 : Sep w ([] ++ b32_514) (wc) := by rw [Hb32_514.out]; exact S.out
                  clear S
                  refine regionP 32 0 (E := []) (base := b32_514) S1 ?_
                  clear S1
                  refine quietP (hy := fun E Wx hSw => by ((refine and5 (Cb32_514_0.out _ _ hSw) fun u0 u1 u2 u3 u4 => ?_); go_simp; exact ⟨rfl, hSw⟩)) (h := ?_)
                  simp only [Act.put, pa]; try dsimp only [List.set]
                  refine quietP (hy := fun E Wx hSw => by (go_simp; exact symCall (K32_1.out _ _ hSw))) (h := ?_)
                  simp only [Act.put, pa]; try dsimp only [List.set]
                  refine quietP ?_
                  simp only [Act.put, pa]; try dsimp only [List.set]
                  refine quietP (hy := fun E Wx hSw => by ((refine and5 (Cb32_514_1.out _ _ hSw) fun u0 u1 u2 u3 u4 => ?_); go_simp; exact ⟨rfl, hSw⟩)) (h := ?_)
                  simp only [Act.put, pa]; try dsimp only [List.set]
                  refine quietP (hy := fun E Wx hSw => by (go_simp; exact symCall (K32_4.out _ _ hSw))) (h := ?_)
                  simp only [Act.put, pa]; try dsimp only [List.set]
                  iterate 2 (refine quietP ?_; simp only [Act.put, pa]; try dsimp only [List.set])
                  refine quietP (hy := fun E Wx hSw => by ((refine and5 (Cb32_514_2.out _ _ hSw) fun u0 u1 u2 u3 u4 => ?_); go_simp; exact ⟨rfl, hSw⟩)) (h := ?_)
                  simp only [Act.put, pa]; try dsimp only [List.set]
                  refine quietP (hy := fun E Wx hSw => by (go_simp; exact symCall (K32_8.out _ _ hSw))) (h := ?_)
                  simp only [Act.put, pa]; try dsimp only [List.set]
                  iterate 2 (refine quietP ?_; simp only [Act.put, pa]; try dsimp only [List.set])
                  refine quietP (hy := fun E Wx hSw => by ((refine and5 (Cb32_514_3.out _ _ hSw) fun u0 u1 u2 u3 u4 => ?_); go_simp; exact ⟨rfl, hSw⟩)) (h := ?_)
                  simp only [Act.put, pa]; try dsimp only [List.set]
                  refine quietP (hy := fun E Wx hSw => by (go_simp; exact symCall (K32_12.out _ _ hSw))) (h := ?_)
                  simp only [Act.put, pa]; try dsimp only [List.set]
                  iterate 2 (refine quietP ?_; simp only [Act.put, pa]; try dsimp only [List.set])
                  refine quietP (hy := fun E Wx hSw => by ((refine and5 (Cb32_514_4.out _ _ hSw) fun u0 u1 u2 u3 u4 => ?_); go_simp; exact ⟨rfl, hSw⟩)) (h := ?_)
                  simp only [Act.put, pa]; try dsimp only [List.set]
                  refine quietP (hy := fun E Wx hSw => by (go_simp; exact symCall (K32_16.out _ _ hSw))) (h := ?_)
                  simp only [Act.put, pa]; try dsimp only [List.set]
                  iterate 2 (refine quietP ?_; simp only [Act.put, pa]; try dsimp only [List.set])
                  refine quietP (hy := fun E Wx hSw => by ((refine and5 (Cb32_514_5.out _ _ hSw) fun u0 u1 u2 u3 u4 => ?_); go_simp; exact ⟨rfl, hSw⟩)) (h := ?_)
                  simp only [Act.put, pa]; try dsimp only [List.set]
                  refine quietP (hy := fun E Wx hSw => by (go_simp; exact symCall (K32_20.out _ _ hSw))) (h := ?_)
                  simp only [Act.put, pa]; try dsimp only [List.set]
                  iterate 2 (refine quietP ?_; simp only [Act.put, pa]; try dsimp only [List.set])
                  refine quietP (hy := fun E Wx hSw => by ((refine and5 (Cb32_514_7.out _ _ hSw) fun u0 u1 u2 u3 u4 => ?_); go_simp; exact ⟨rfl, hSw⟩)) (h := ?_)
                  simp only [Act.put, pa]; try dsimp only [List.set]
                  refine quietP (hy := fun E Wx hSw => by (go_simp; exact symCall (K32_24.out _ _ hSw))) (h := ?_)
                  simp only [Act.put, pa]; try dsimp only [List.set]
                  iterate 2 (refine quietP ?_; simp only [Act.put, pa]; try dsimp only [List.set])
                  refine quietP (hy := fun E Wx hSw => by ((refine and3 (Cb32_514_6.out _ _ hSw) fun u0 u1 u2 => ?_); go_simp; exact ⟨rfl, hSw⟩)) (h := ?_)
                  simp only [Act.put, pa]; try dsimp only [List.set]
                  refine quietP (hy := fun E Wx hSw => by (go_simp; exact symCall (K32_28.out _ _ hSw))) (h := ?_)
                  simp only [Act.put, pa]; try dsimp only [List.set]
                  iterate 3 (refine quietP ?_; simp only [Act.put, pa]; try dsimp only [List.set])
                  refine endP ?_
                  refine doneS (h := fun w516 S => ?_)
                  replace S : Sep w (boxW qq0_31 2 1 ⟨#[]⟩ :: boxE qq1_31 :: boxE qq0_30 :: heapR h (HD (putL (putL L vT n1) n1 n2)) :: boxE qq0_29 :: boxZ qa281 :: boxN qb282 typeError :: boxN qb271 typeError :: boxN qb261 typeError :: boxZ qa251 :: boxN qb252 typeError :: boxW qD2 4 1 ⟨#[]⟩ :: boxV q3 x :: []) w516 := by rw [Hb32_514.out] at S; exact S
                  clear Hb32_514 Kb32_514 K32_1 K32_4 K32_8 K32_12 K32_16 K32_20 K32_24 K32_28 Cb32_514_0 Cb32_514_1 Cb32_514_2 Cb32_514_3 Cb32_514_4 Cb32_514_5 Cb32_514_6 Cb32_514_7
                  replace S := Lib.hid S.below
                  go_wp2
                  go_ret
                  exact ⟨rfl, by rw [← HQ3.out]; exact S.out⟩
set_option maxRecDepth 100000 in
theorem lifted (os : Os) (started : os.Started) (H : Type) (enc : TypeId × Value → H) :
    ReturnsInHanded {} Tryz.checked os 12 .any (Rows.operateKeysSpec.pre6 enc Tryz.prog Tryz.f12 Rows.operateKeysRow.domain false) (Rows.operateKeysSpec.post enc Tryz.prog Tryz.f12 false true false false) := by
  refine law_lift (C := Tryz.checked) own started (by kernel_rfl) Tryz.func12
    (ChangeSpec.witness6 (enc := enc) (C := Tryz.checked) false ⟨#[], #[.slice none 0 0, .agg #[.int .i64 0, .int .i64 0, .string ⟨#[]⟩]], []⟩ 8 (by kernel_rfl) (by kernel_rfl) (by kernel_rfl) (by kernel_rfl))
    (by kernel_rfl) (by kernel_rfl) rfl (fun ds h => by
      match ds, h with
      | [d1, d2], _ => exact ⟨rfl, rfl, rfl⟩) rfl Tryz.underlying4 ?_
  intro W base args ds ps hval hA hlt hwt hsh
  rw [Tryz.params12] at hA hval
  obtain ⟨v0, vs0, d0, ds0, p0, q0, hargs, rfl, rfl, h0, r0⟩ := trodAll_cons hA
  obtain ⟨v1, vs1, d1, ds1, p1, q1, rfl, rfl, rfl, h1, r1⟩ := trodAll_cons r0
  obtain ⟨rfl, rfl, rfl⟩ := trodAll_nil r1
  obtain rfl : args = #[v0, v1] := by cases args; simp_all
  obtain ⟨x0, len0, cap0, rfl⟩ := okWide_slice Tryz.underlying22 (hval 0 22 v0 rfl rfl)
  obtain ⟨fuel0, hf0⟩ := h0
  obtain ⟨l0, s0, g0⟩ := open_vals (v := .slice x0 len0 cap0) hf0
  obtain ⟨cs1, rfl, hsz1⟩ := okWide_struct Tryz.underlying29 (hval 1 29 v1 rfl rfl)
  obtain ⟨fuel1, hf1⟩ := h1
  obtain ⟨x1, e1⟩ := val_of_trod (cs := cs1.toList) hf1
  obtain rfl : cs1 = x1.cells.toArray := by rw [← e1]
  -- WALK
  exact walk W _ l0 s0 x1
theorem proved : Rows.OperateKeysSaid :=
  OpenClaim.holds_of_wide 12 Tryz.f12 rfl rfl rfl rfl rfl rfl rfl ⟨rfl, rfl, rfl, rfl, rfl⟩ rfl rfl rfl rfl rfl (by kernel_rfl) Tryz.func12 (by kernel_rfl)
    (of_decide_eq_true (by kernel_rfl)) (by unfold Func.isWrapper; first | (rw [if_pos (by decide +kernel)]; kernel_rfl) | (rw [if_neg (by decide +kernel)]; exact ⟨rfl, rfl⟩))
    (fun os started H enc _ => lifted os started H enc)
#print axioms proved
end Go.Proofs.YtellmfimmghidaaGreat.operateKeys
