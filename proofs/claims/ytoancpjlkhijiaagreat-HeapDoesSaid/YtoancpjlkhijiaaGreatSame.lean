/- The law's same: all that is told of a value's object, by a heap and by the reference's, of the same objects. -/
import Derived.Test.YtoancpjlkhijiaaGreatRefY
import Derived.Test.YtoancpjlkhijiaaGreatCountsM
import Derived.Deep.RegionHeld3
import Derived.Deep.CutRange
namespace Go.Proofs.YtoancpjlkhijiaaGreat
set_option linter.unusedSimpArgs false
open Go.RowKit
set_option linter.unusedVariables false
section
variable {w W : World} {Rs : List Res} {h r : Nat} {H : HeapM} {N : Nat}
set_option maxRecDepth 100000 in
theorem Sep.yLen (S : Sep w Rs W) (i : Nat) (hi : Rs[i]? = some (refR r H)) (G : H.Good N) (hN : N ≤ 4000000) (v : V) : Calls Tryz.prog 46 #[.pointer (some ⟨r, 0, none⟩), v.val] W fun e W' => e = .returned (.int .i64 (H.items v).length) ∧ Sep w Rs W' := by
  have K := (S.alloc (valObj v)).yItems (i + 1) (by simpa using hi) G hN v
  clear S hi G hN
  simp only [V.val, valObj] at *
  replace K := Lib.hid K
  go_enter Tryz.func46, Tryz.ntmps46
  go_wp2_with fail
  refine K.out.mono ?_
  rintro e w1 ⟨sv, rfl, S1⟩
  obtain ⟨sa, sc, rfl⟩ := (S1.row 0 rfl).form
  replace S1 := Lib.hid S1.tail.tail
  clear K
  go_wp2
  go_ret
  exact ⟨rfl, S1.out⟩
theorem Sep.yAt (S : Sep w Rs W) (i : Nat) (hi : Rs[i]? = some (refR r H)) (v : V) (j : Int) (hj : okI j) : Calls Tryz.prog 33 #[.pointer (some ⟨r, 0, none⟩), v.val, .int .i64 j] W fun e W' => e = .returned (.tuple #[((H.at v j).getD V.zero).val, .bool (H.at v j).isSome]) ∧ Sep w Rs W' := by
  obtain ⟨F, h1, _⟩ := S.get i hi
  exact (ref_at W r v j hj h1).mono fun e W' ⟨e1, e2⟩ => ⟨e1, S.later e2⟩
theorem Sep.yGet (S : Sep w Rs W) (i : Nat) (hi : Rs[i]? = some (refR r H)) (v k : V) : Calls Tryz.prog 35 #[.pointer (some ⟨r, 0, none⟩), v.val, k.val] W fun e W' => e = .returned (.tuple #[((H.get v k).getD V.zero).val, .bool (H.get v k).isSome]) ∧ Sep w Rs W' := by
  obtain ⟨F, h1, _⟩ := S.get i hi
  exact (ref_get W r v k h1).mono fun e W' ⟨e1, e2⟩ => ⟨e1, S.later e2⟩
set_option maxRecDepth 100000 in
set_option maxHeartbeats 12800000 in
theorem same_ok (S : Sep w Rs W) (p q : Nat) (hp : Rs[p]? = some (heapR h H)) (hq : Rs[q]? = some (refR r H)) (F : H.Fit N) (hN : N ≤ 1000000) (v key : V) (i : Int) (hi : okI i) :
    Calls Tryz.prog 10 #[.pointer (some ⟨h, 0, none⟩), .pointer (some ⟨r, 0, none⟩), v.val, key.val, .int .i64 i] W fun e W' => e = .returned (.bool true) ∧ Sep w Rs W' := by
  have hN4 : N ≤ 4000000 := by omega
  have G := F.G
  have hq3 : ∀ Q : List Res, (Q ++ Rs)[Q.length + p]? = some (heapR h H) := fun Q => by rw [List.getElem?_append_right (by omega)]; simpa using hp
  have hq2 : ∀ Q : List Res, (Q ++ Rs)[Q.length + q]? = some (refR r H) := fun Q => by rw [List.getElem?_append_right (by omega)]; simpa using hq
  have A1 := fun W (Q : List Res) (S : Sep w (Q ++ Rs) W) => S.at_ (Q.length + p) (hq3 Q) v i hi
  have A2 := fun W (Q : List Res) (S : Sep w (Q ++ Rs) W) => S.yAt (Q.length + q) (hq2 Q) v i hi
  have A3 := fun W (Q : List Res) (S : Sep w (Q ++ Rs) W) => S.get_ (Q.length + p) (hq3 Q) v key
  have A4 := fun W (Q : List Res) (S : Sep w (Q ++ Rs) W) => S.yGet (Q.length + q) (hq2 Q) v key
  have K1 := fun W (Q : List Res) (S : Sep w (Q ++ Rs) W) => S.kind (Q.length + p) (hq3 Q) v
  have K1' := fun W (Q : List Res) (S : Sep w (Q ++ Rs) W) => S.yKind (Q.length + q) (hq2 Q) v
  have K2 := fun W (Q : List Res) (S : Sep w (Q ++ Rs) W) => S.num (Q.length + p) (hq3 Q) v
  have K2' := fun W (Q : List Res) (S : Sep w (Q ++ Rs) W) => S.yNum (Q.length + q) (hq2 Q) v
  have K3 := fun W (Q : List Res) (S : Sep w (Q ++ Rs) W) => S.items (Q.length + p) (hq3 Q) G hN4 v
  have K3' := fun W (Q : List Res) (S : Sep w (Q ++ Rs) W) => S.yItems (Q.length + q) (hq2 Q) G hN4 v
  have K4 := fun W (Q : List Res) (S : Sep w (Q ++ Rs) W) => S.keys (Q.length + p) (hq3 Q) v
  have K4' := fun W (Q : List Res) (S : Sep w (Q ++ Rs) W) => S.yKeys (Q.length + q) (hq2 Q) G hN4 v
  have K5 := fun W (Q : List Res) (S : Sep w (Q ++ Rs) W) => S.refs (Q.length + p) (hq3 Q) G hN4 v
  have K5' := fun W (Q : List Res) (S : Sep w (Q ++ Rs) W) => S.yRefs (Q.length + q) (hq2 Q) G hN4 v
  have K6 := fun W (Q : List Res) (S : Sep w (Q ++ Rs) W) => S.name (Q.length + p) (hq3 Q) v
  have K6' := fun W (Q : List Res) (S : Sep w (Q ++ Rs) W) => S.yName (Q.length + q) (hq2 Q) v
  have K7 := fun W (Q : List Res) (S : Sep w (Q ++ Rs) W) => S.len (Q.length + p) (hq3 Q) v
  have K7' := fun W (Q : List Res) (S : Sep w (Q ++ Rs) W) => S.yLen (Q.length + q) (hq2 Q) G hN4 v
  have K8 := fun W (Q : List Res) (S : Sep w (Q ++ Rs) W) => S.size (Q.length + p) (hq3 Q) v
  have K9 := fun W (Q : List Res) (S : Sep w (Q ++ Rs) W) => S.count (Q.length + p) (hq3 Q) G hN4 v
  have K9' := fun W (Q : List Res) (S : Sep w (Q ++ Rs) W) => S.yCount (Q.length + q) (hq2 Q) G hN4 v
  have hOk : ∀ m ∈ H.refNs v, okI m := fun m hm => HeapM.refNs_ok G hN4 v m hm
  have hpl : (H.pairs v).length = ((H.pairs v).map (·.1)).length := by simp
  obtain ⟨kd, hkd⟩ : ∃ gx_, (H.kind v) = gx_ := ⟨_, rfl⟩
  obtain ⟨nm, hnm⟩ : ∃ gx_, (H.num v) = gx_ := ⟨_, rfl⟩
  obtain ⟨st, hst⟩ : ∃ gx_, (H.name v) = gx_ := ⟨_, rfl⟩
  obtain ⟨I, hI⟩ : ∃ gx_, (H.items v) = gx_ := ⟨_, rfl⟩
  obtain ⟨Y, hY⟩ : ∃ gx_, ((H.pairs v).map (·.1)) = gx_ := ⟨_, rfl⟩
  obtain ⟨O, hO⟩ : ∃ gx_, (H.refNs v) = gx_ := ⟨_, rfl⟩
  obtain ⟨ct, hct⟩ : ∃ gx_, (H.count v) = gx_ := ⟨_, rfl⟩
  obtain ⟨x, hx⟩ : ∃ gx_, ((H.at v i).getD V.zero) = gx_ := ⟨_, rfl⟩
  obtain ⟨bx, hbx⟩ : ∃ gx_, ((H.at v i).isSome) = gx_ := ⟨_, rfl⟩
  obtain ⟨y, hy⟩ : ∃ gx_, ((H.get v key).getD V.zero) = gx_ := ⟨_, rfl⟩
  obtain ⟨bY, hbY⟩ : ∃ gx_, ((H.get v key).isSome) = gx_ := ⟨_, rfl⟩
  rw [hY] at hpl
  rw [hO] at hOk
  have HOk := Lib.hid hOk
  simp only [hkd, hnm, hI, hY, hO, hst, hct, hx, hbx, hy, hbY, hpl, V.val] at A1 A2 A3 A4 K1 K1' K2 K2' K3 K3' K4 K4' K5 K5' K6 K6' K7 K7' K8 K9 K9'
  have S0 := (S.alloc (valObj v)).alloc (valObj key)
  rw [World.size_alloc] at S0
  have C1 := Lib.hid (A1 _ [_, _] S0)
  replace A2 := Lib.hid A2
  replace A3 := Lib.hid A3
  replace A4 := Lib.hid A4
  have HK := Lib.hid (And.intro K1 (And.intro K1' (And.intro K2 (And.intro K2' (And.intro K3 (And.intro K3' (And.intro K4 (And.intro K4' (And.intro K5 (And.intro K5' (And.intro K6 (And.intro K6' (And.intro K7 (And.intro K7' (And.intro K8 (And.intro K9 K9'))))))))))))))))
  clear K1 K1' K2 K2' K3 K3' K4 K4' K5 K5' K6 K6' K7 K7' K8 K9 K9' hq2 hq3 hkd hnm hI hY hO hst hct hx hbx hy hbY hpl S S0 A1 hOk hp hq F G
  simp only [V.val]
  simp only [valObj] at C1
  go_enter Tryz.func10, Tryz.ntmps10
  go_wp2_with fail
  refine C1.out.mono ?_
  rintro e w1 ⟨rfl, T1, -⟩
  have T1' := T1.alloc (valObj x)
  have C2 := A2.out _ [_, _, _] T1'
  obtain ⟨v0, v1, v2, -⟩ := valBlkO (x := v) (T1'.box 2 rfl)
  have hz1 := World.block_lt_of_cell? _ _ v0
  have hz2 : W.heap.size + 1 < (w1.alloc (valObj x)).heap.size := blockLt (T1'.box 1 rfl)
  simp only [World.size_alloc] at hz1 hz2
  simp only [valObj] at C2 v0 v1 v2
  replace C2 := Lib.hid C2
  replace T1' := Lib.hid T1'
  clear C1 T1
  go_wp2_with fail
  refine C2.out.mono ?_
  rintro e w2 ⟨rfl, T2⟩
  have T2' := T2.alloc (valObj x)
  have C3 := A3.out _ [_, _, _, _] T2'
  clear v0 v1 v2
  obtain ⟨v0, v1, v2, -⟩ := valBlkO (x := v) (T2'.box 3 rfl)
  obtain ⟨k0, k1, k2, -⟩ := valBlkO (x := key) (T2'.box 2 rfl)
  simp only [valObj] at C3 v0 v1 v2 k0 k1 k2
  replace C3 := Lib.hid C3
  replace T2' := Lib.hid T2'
  clear C2 T2
  go_wp2_with fail
  refine C3.out.mono ?_
  rintro e w3 ⟨rfl, T3, -⟩
  have T3' := T3.alloc (valObj y)
  have C4 := A4.out _ [_, _, _, _, _] T3'
  clear v0 v1 v2 k0 k1 k2
  obtain ⟨v0, v1, v2, -⟩ := valBlkO (x := v) (T3'.box 4 rfl)
  obtain ⟨k0, k1, k2, -⟩ := valBlkO (x := key) (T3'.box 3 rfl)
  simp only [valObj] at C4 v0 v1 v2 k0 k1 k2
  replace C4 := Lib.hid C4
  replace T3' := Lib.hid T3'
  clear C3 T3
  go_wp2_with fail
  refine C4.out.mono ?_
  rintro e w4 ⟨rfl, T4⟩
  have T4' := T4.alloc (valObj y)
  clear v0 v1 v2 k0 k1 k2
  obtain ⟨vb, hvb⟩ : ∃ b, W.heap.size = b := ⟨_, rfl⟩
  obtain ⟨Bs, hBs⟩ : ∃ Bs, Bs = [boxR w4.heap.size (valObj y), boxR w3.heap.size (valObj y), boxR w2.heap.size (valObj x), boxR w1.heap.size (valObj x), boxR (W.heap.size + 1) (valObj key), boxR W.heap.size (valObj v)] := ⟨_, rfl⟩
  have T5 : Sep w (Bs ++ Rs) (w4.alloc (valObj y)) := by rw [hBs]; exact T4'
  have KK : ∀ W1 (Q : List Res), Sep w (Q ++ (Bs ++ Rs)) W1 → (W1.cell? ⟨W.heap.size, 0, none⟩ = some (.int .i64 v.kind) ∧ W1.cell? ⟨W.heap.size, 1, none⟩ = some (.int .i64 v.n) ∧ W1.cell? ⟨W.heap.size, 2, none⟩ = some (.string v.s)) ∧
      (W1.cell? ⟨w1.heap.size, 0, none⟩ = some (.int .i64 x.kind) ∧ W1.cell? ⟨w1.heap.size, 1, none⟩ = some (.int .i64 x.n) ∧ W1.cell? ⟨w1.heap.size, 2, none⟩ = some (.string x.s)) ∧
      (W1.cell? ⟨w2.heap.size, 0, none⟩ = some (.int .i64 x.kind) ∧ W1.cell? ⟨w2.heap.size, 1, none⟩ = some (.int .i64 x.n) ∧ W1.cell? ⟨w2.heap.size, 2, none⟩ = some (.string x.s)) ∧
      (W1.cell? ⟨w3.heap.size, 0, none⟩ = some (.int .i64 y.kind) ∧ W1.cell? ⟨w3.heap.size, 1, none⟩ = some (.int .i64 y.n) ∧ W1.cell? ⟨w3.heap.size, 2, none⟩ = some (.string y.s)) ∧
      (W1.cell? ⟨w4.heap.size, 0, none⟩ = some (.int .i64 y.kind) ∧ W1.cell? ⟨w4.heap.size, 1, none⟩ = some (.int .i64 y.n) ∧ W1.cell? ⟨w4.heap.size, 2, none⟩ = some (.string y.s)) := fun W1 Q T => by
    have hbx : ∀ (k : Nat) (b : Nat) (z : V), Bs[k]? = some (boxR b (valObj z)) → W1.cell? ⟨b, 0, none⟩ = some (.int .i64 z.kind) ∧ W1.cell? ⟨b, 1, none⟩ = some (.int .i64 z.n) ∧ W1.cell? ⟨b, 2, none⟩ = some (.string z.s) := fun k b z hk => by
      have hkl : k < Bs.length := (List.getElem?_eq_some_iff.1 hk).1
      obtain ⟨z0, z1, z2, -⟩ := valBlkO (T.box (Q.length + k) (b := b) (o := valObj z) (by
        rw [List.getElem?_append_right (by omega), Nat.add_sub_cancel_left, List.getElem?_append_left hkl]; exact hk))
      exact ⟨z0, z1, z2⟩
    exact ⟨hbx 5 _ _ (by rw [hBs]; rfl), hbx 3 _ _ (by rw [hBs]; rfl), hbx 2 _ _ (by rw [hBs]; rfl), hbx 1 _ _ (by rw [hBs]; rfl), hbx 0 _ _ (by rw [hBs]; rfl)⟩
  have FB : ∀ W1, Sep w (Bs ++ Rs) W1 → Sep w Rs W1 := fun W1 T => T.sub (List.sublist_append_right _ _)
  obtain ⟨K1, K1', K2, K2', K3, K3', K4, K4', K5, K5', K6, K6', K7, K7', K8, K9, K9'⟩ := HK.out
  have L1 := fun W (S : Sep w (Bs ++ Rs) W) => K1 W Bs S
  have L1' := fun W (S : Sep w (Bs ++ Rs) W) => K1' W Bs S
  have L2 := fun W (S : Sep w (Bs ++ Rs) W) => K2 W Bs S
  have L2' := fun W (S : Sep w (Bs ++ Rs) W) => K2' W Bs S
  have L3 := fun W (S : Sep w (Bs ++ Rs) W) => K3 W Bs S
  have L3' := fun W X (S : Sep w (X :: (Bs ++ Rs)) W) => K3' W (X :: Bs) S
  have L4 := fun W (S : Sep w (Bs ++ Rs) W) => K4 W Bs S
  have L4' := fun W X (S : Sep w (X :: (Bs ++ Rs)) W) => K4' W (X :: Bs) S
  have L4'' := fun W (S : Sep w (Bs ++ Rs) W) => K4' W Bs S
  have L5 := fun W (S : Sep w (Bs ++ Rs) W) => K5 W Bs S
  have L5' := fun W X (S : Sep w (X :: (Bs ++ Rs)) W) => K5' W (X :: Bs) S
  have L6 := fun W (S : Sep w (Bs ++ Rs) W) => K6 W Bs S
  have L6' := fun W (S : Sep w (Bs ++ Rs) W) => K6' W Bs S
  have L7 := fun W (S : Sep w (Bs ++ Rs) W) => K7 W Bs S
  have L7' := fun W (S : Sep w (Bs ++ Rs) W) => K7' W Bs S
  have L8 := fun W (S : Sep w (Bs ++ Rs) W) => K8 W Bs S
  have L9 := fun W (S : Sep w (Bs ++ Rs) W) => K9 W Bs S
  have L9' := fun W (S : Sep w (Bs ++ Rs) W) => K9' W Bs S
  clear K1 K1' K2 K2' K3 K3' K4 K4' K5 K5' K6 K6' K7 K7' K8 K9 K9' HK
  simp only [List.cons_append] at L3' L4' L5'
  have KS : ∀ W Z a1 b1 a2 b2, Sep w (valsR (.slice a2 Z.length b2) Z :: valsR (.slice a1 Z.length b1) Z :: (Bs ++ Rs)) W → Calls Tryz.prog 42 #[.slice a1 Z.length b1, .slice a2 Z.length b2] W fun e w1 => e = .returned (.bool true) ∧ Sep w (Bs ++ Rs) w1 := fun W Z a1 b1 a2 b2 S =>
    (same_vals W _ _ Z Z (S.row 1 rfl).sees' (S.row 0 rfl).sees').mono fun e w1 ⟨h1, q, h2⟩ => ⟨by rw [h1]; simp, by rw [h2]; exact S.tail.tail.drewN q⟩
  have KN : ∀ W a1 b1 a2 b2, Sep w (numsR (.slice a2 O.length b2) O :: numsR (.slice a1 O.length b1) O :: (Bs ++ Rs)) W → Calls Tryz.prog 12 #[.slice a1 O.length b1, .slice a2 O.length b2] W fun e w1 => e = .returned (.bool true) ∧ Sep w (Bs ++ Rs) w1 := fun W a1 b1 a2 b2 S =>
    (same_numbers W _ _ O O (SeesN.of_slIs (S.row 1 rfl)) (SeesN.of_slIs (S.row 0 rfl)) ⟨HOk.out, HOk.out⟩).mono fun e w1 ⟨h1, q, h2⟩ => ⟨by rw [h1]; simp, by rw [h2]; exact S.tail.tail.drewN q⟩
  obtain ⟨base, hbase⟩ : ∃ base, Bs ++ Rs = base := ⟨_, rfl⟩
  rw [hbase] at T5 KK FB L1 L1' L2 L2' L3 L3' L4 L4' L4'' L5 L5' L6 L6' L7 L7' L8 L9 L9' KS KN
  clear hbase hBs T4 T4' C4 T1' T2' T3' A2 A3 A4
  simp only [valObj] at T5
  replace L1 := Lib.hid L1
  replace L1' := Lib.hid L1'
  replace L2 := Lib.hid L2
  replace L2' := Lib.hid L2'
  replace L3 := Lib.hid L3
  replace L3' := Lib.hid L3'
  replace L4 := Lib.hid L4
  replace L4' := Lib.hid L4'
  replace L4'' := Lib.hid L4''
  replace L5 := Lib.hid L5
  replace L5' := Lib.hid L5'
  replace L6 := Lib.hid L6
  replace L6' := Lib.hid L6'
  replace L7 := Lib.hid L7
  replace L7' := Lib.hid L7'
  replace L8 := Lib.hid L8
  replace L9 := Lib.hid L9
  replace L9' := Lib.hid L9'
  replace KK := Lib.hid KK
  replace KS := Lib.hid KS
  replace KN := Lib.hid KN
  replace FB := Lib.hid FB
  replace T5 := Lib.hid T5
  have heq1 := fun W => eql_vals W x x true (by simp)
  have heq2 := fun W => eql_vals W y y true (by simp)
  go_upto_region 5 with fail
  obtain ⟨wb, hwb⟩ : ∃ wb, w4.alloc (.cells #[.int .i64 y.kind, .int .i64 y.n, .string y.s] 31) = wb := ⟨_, rfl⟩
  rw [hwb] at T5 ⊢
  try rw [hvb] at KK
  try rw [hvb]
  obtain ⟨b1, hb1⟩ : ∃ gx_, (w1.heap.size) = gx_ := ⟨_, rfl⟩
  rw [hb1] at KK ⊢
  obtain ⟨b2, hb2⟩ : ∃ gx_, (w2.heap.size) = gx_ := ⟨_, rfl⟩
  rw [hb2] at KK ⊢
  obtain ⟨b3, hb3⟩ : ∃ gx_, (w3.heap.size) = gx_ := ⟨_, rfl⟩
  rw [hb3] at KK ⊢
  obtain ⟨b4, hb4⟩ : ∃ gx_, (w4.heap.size) = gx_ := ⟨_, rfl⟩
  rw [hb4] at KK ⊢
  clear hwb hvb hb1 hb2 hb3 hb4
  go_cut [10] (fun s10 wx => s10 = .bool true ∧ Sep w Rs wx)
  case first =>
    have T0 := T5.out
    clear T5
    simp only [List.append_eq, List.cons_append, List.nil_append]
    replace T0 := T0.drew
    refine wp_region_held_drew (S := (fun W1 => (W1.cell? ⟨vb, 0, none⟩ = some (.int .i64 v.kind) ∧ W1.cell? ⟨vb, 1, none⟩ = some (.int .i64 v.n) ∧ W1.cell? ⟨vb, 2, none⟩ = some (.string v.s)) ∧ (W1.cell? ⟨b1, 0, none⟩ = some (.int .i64 x.kind) ∧ W1.cell? ⟨b1, 1, none⟩ = some (.int .i64 x.n) ∧ W1.cell? ⟨b1, 2, none⟩ = some (.string x.s)) ∧ (W1.cell? ⟨b2, 0, none⟩ = some (.int .i64 x.kind) ∧ W1.cell? ⟨b2, 1, none⟩ = some (.int .i64 x.n) ∧ W1.cell? ⟨b2, 2, none⟩ = some (.string x.s)) ∧ (W1.cell? ⟨b3, 0, none⟩ = some (.int .i64 y.kind) ∧ W1.cell? ⟨b3, 1, none⟩ = some (.int .i64 y.n) ∧ W1.cell? ⟨b3, 2, none⟩ = some (.string y.s)) ∧ (W1.cell? ⟨b4, 0, none⟩ = some (.int .i64 y.kind) ∧ W1.cell? ⟨b4, 1, none⟩ = some (.int .i64 y.n) ∧ W1.cell? ⟨b4, 2, none⟩ = some (.string y.s)))) (by kernel_rfl) ?_ (fun hH => ?_)
    · exact KK.out _ [] T0
    refine wpAnyH_take (i := 0) (v := _) (by simp only [List.getElem?_toArray, List.getElem?_cons_succ, List.getElem?_cons_zero]; rfl) (by kernel_rfl) (by kernel_rfl) (by kernel_rfl) (by exact fun _ _ _ h => h) (.inl ⟨by rfl, by (intro w hSw; try obtain ⟨⟨s0, s1, s2⟩, ⟨s3, s4, s5⟩, ⟨s6, s7, s8⟩, ⟨s9, s10, s11⟩, s12, s13, s14⟩ := hSw); (go_simp; try rfl)⟩) hH ?_
    simp only [Act.put, List.setIfInBounds_toArray, List.set_cons_zero, List.set_cons_succ]
    refine wpAnyH_take (i := 1) (v := _) (by simp only [List.getElem?_toArray, List.getElem?_cons_succ, List.getElem?_cons_zero]; rfl) (by kernel_rfl) (by kernel_rfl) (by kernel_rfl) (by exact fun _ _ _ h => h) (.inl ⟨by rfl, by (intro w hSw; try obtain ⟨⟨s0, s1, s2⟩, ⟨s3, s4, s5⟩, ⟨s6, s7, s8⟩, ⟨s9, s10, s11⟩, s12, s13, s14⟩ := hSw); (go_simp; try rfl)⟩) hH ?_
    simp only [Act.put, List.setIfInBounds_toArray, List.set_cons_zero, List.set_cons_succ]
    refine wpAnyH_take (i := 3) (v := _) (by simp only [List.getElem?_toArray, List.getElem?_cons_succ, List.getElem?_cons_zero]; rfl) (by kernel_rfl) (by kernel_rfl) (by kernel_rfl) (by exact fun _ _ _ h => h) (.inl ⟨by rfl, by (intro w hSw; try obtain ⟨⟨s0, s1, s2⟩, ⟨s3, s4, s5⟩, ⟨s6, s7, s8⟩, ⟨s9, s10, s11⟩, s12, s13, s14⟩ := hSw); (go_simp; try rfl)⟩) hH ?_
    simp only [Act.put, List.setIfInBounds_toArray, List.set_cons_zero, List.set_cons_succ]
    refine wpAnyH_take (i := 4) (v := _) (by simp only [List.getElem?_toArray, List.getElem?_cons_succ, List.getElem?_cons_zero]; rfl) (by kernel_rfl) (by kernel_rfl) (by kernel_rfl) (by exact fun _ _ _ h => h) (.inl ⟨by rfl, by (intro w hSw; try obtain ⟨⟨s0, s1, s2⟩, ⟨s3, s4, s5⟩, ⟨s6, s7, s8⟩, ⟨s9, s10, s11⟩, s12, s13, s14⟩ := hSw); (go_simp; try rfl)⟩) hH ?_
    simp only [Act.put, List.setIfInBounds_toArray, List.set_cons_zero, List.set_cons_succ]
    refine wpAnyH_ready (rs := [2]) (by kernel_rfl) (by simp) ?_
    refine AllReadyH.cons (by simp only [List.getElem?_toArray, List.getElem?_cons_succ, List.getElem?_cons_zero]; rfl) (fun K hK => ?_) AllReadyH.nil
    go_simp
    go_wp2_with (go_at_call 36; refine (L1.out _ T0).mono ?_; rintro e w6 ⟨rfl, T1, -⟩)
    clear hH
    refine hK.out _ _ ?_ (fun hH => ?_)
    · exact KK.out _ [] T1
    clear hK K
    refine wpAnyH_ready (rs := [5]) (by kernel_rfl) (by simp) ?_
    refine AllReadyH.cons (by simp only [List.getElem?_toArray, List.getElem?_cons_succ, List.getElem?_cons_zero]; rfl) (fun K hK => ?_) AllReadyH.nil
    go_simp
    go_wp2_with (go_at_call 37; refine (L1'.out _ T1).mono ?_; rintro e w7 ⟨rfl, T2⟩)
    clear hH
    refine hK.out _ _ ?_ (fun hH => ?_)
    · exact KK.out _ [] T2
    clear hK K
    refine wpAnyH_take (i := 6) (v := _) (by simp only [List.getElem?_toArray, List.getElem?_cons_succ, List.getElem?_cons_zero]; rfl) (by kernel_rfl) (by kernel_rfl) (by kernel_rfl) (by exact fun _ _ _ h => h) (.inl ⟨by rfl, by (intro w hSw; try obtain ⟨⟨s0, s1, s2⟩, ⟨s3, s4, s5⟩, ⟨s6, s7, s8⟩, ⟨s9, s10, s11⟩, s12, s13, s14⟩ := hSw); (go_simp; try rfl)⟩) hH ?_
    simp only [Act.put, List.setIfInBounds_toArray, List.set_cons_zero, List.set_cons_succ]
    refine wpAnyH_take (i := 7) (v := _) (by simp only [List.getElem?_toArray, List.getElem?_cons_succ, List.getElem?_cons_zero]; rfl) (by kernel_rfl) (by kernel_rfl) (by kernel_rfl) (by exact fun _ _ _ h => h) (.inl ⟨by rfl, by (intro w hSw; try obtain ⟨⟨s0, s1, s2⟩, ⟨s3, s4, s5⟩, ⟨s6, s7, s8⟩, ⟨s9, s10, s11⟩, s12, s13, s14⟩ := hSw); (go_simp; try rfl)⟩) hH ?_
    simp only [Act.put, List.setIfInBounds_toArray, List.set_cons_zero, List.set_cons_succ]
    refine wpAnyH_take (i := 8) (v := _) (by simp only [List.getElem?_toArray, List.getElem?_cons_succ, List.getElem?_cons_zero]; rfl) (by kernel_rfl) (by kernel_rfl) (by kernel_rfl) (by exact fun _ _ _ h => h) (.inl ⟨by rfl, by (intro w hSw; try obtain ⟨⟨s0, s1, s2⟩, ⟨s3, s4, s5⟩, ⟨s6, s7, s8⟩, ⟨s9, s10, s11⟩, s12, s13, s14⟩ := hSw); (go_simp; try rfl)⟩) hH ?_
    simp only [Act.put, List.setIfInBounds_toArray, List.set_cons_zero, List.set_cons_succ]
    refine wpAnyH_take (i := 9) (v := _) (by simp only [List.getElem?_toArray, List.getElem?_cons_succ, List.getElem?_cons_zero]; rfl) (by kernel_rfl) (by kernel_rfl) (by kernel_rfl) (by exact fun _ _ _ h => h) (.inl ⟨by rfl, by (intro w hSw; try obtain ⟨⟨s0, s1, s2⟩, ⟨s3, s4, s5⟩, ⟨s6, s7, s8⟩, ⟨s9, s10, s11⟩, s12, s13, s14⟩ := hSw); (go_simp; try rfl)⟩) hH ?_
    simp only [Act.put, List.setIfInBounds_toArray, List.set_cons_zero, List.set_cons_succ]
    refine wpAnyH_take (i := 11) (v := _) (by simp only [List.getElem?_toArray, List.getElem?_cons_succ, List.getElem?_cons_zero]; rfl) (by kernel_rfl) (by kernel_rfl) (by kernel_rfl) (by exact fun _ _ _ h => h) (.inl ⟨by rfl, by (intro w hSw; try obtain ⟨⟨s0, s1, s2⟩, ⟨s3, s4, s5⟩, ⟨s6, s7, s8⟩, ⟨s9, s10, s11⟩, s12, s13, s14⟩ := hSw); (go_simp; try rfl)⟩) hH ?_
    simp only [Act.put, List.setIfInBounds_toArray, List.set_cons_zero, List.set_cons_succ]
    refine wpAnyH_take (i := 12) (v := _) (by simp only [List.getElem?_toArray, List.getElem?_cons_succ, List.getElem?_cons_zero]; rfl) (by kernel_rfl) (by kernel_rfl) (by kernel_rfl) (by exact fun _ _ _ h => h) (.inl ⟨by rfl, by (intro w hSw; try obtain ⟨⟨s0, s1, s2⟩, ⟨s3, s4, s5⟩, ⟨s6, s7, s8⟩, ⟨s9, s10, s11⟩, s12, s13, s14⟩ := hSw); (go_simp; try rfl)⟩) hH ?_
    simp only [Act.put, List.setIfInBounds_toArray, List.set_cons_zero, List.set_cons_succ]
    refine wpAnyH_ready (rs := [10]) (by kernel_rfl) (by simp) ?_
    refine AllReadyH.cons (by simp only [List.getElem?_toArray, List.getElem?_cons_succ, List.getElem?_cons_zero]; rfl) (fun K hK => ?_) AllReadyH.nil
    go_simp
    go_wp2_with (go_at_call 38; refine (L6.out _ T2).mono ?_; rintro e w8 ⟨rfl, T3, -⟩)
    clear hH
    refine hK.out _ _ ?_ (fun hH => ?_)
    · exact KK.out _ [] T3
    clear hK K
    refine wpAnyH_ready (rs := [13]) (by kernel_rfl) (by simp) ?_
    refine AllReadyH.cons (by simp only [List.getElem?_toArray, List.getElem?_cons_succ, List.getElem?_cons_zero]; rfl) (fun K hK => ?_) AllReadyH.nil
    go_simp
    go_wp2_with (go_at_call 39; refine (L6'.out _ T3).mono ?_; rintro e w9 ⟨rfl, T4⟩)
    clear hH
    refine hK.out _ _ ?_ (fun hH => ?_)
    · exact KK.out _ [] T4
    clear hK K
    refine wpAnyH_take (i := 14) (v := _) (by simp only [List.getElem?_toArray, List.getElem?_cons_succ, List.getElem?_cons_zero]; rfl) (by kernel_rfl) (by kernel_rfl) (by kernel_rfl) (by exact fun _ _ _ h => h) (.inl ⟨by rfl, by (intro w hSw; try obtain ⟨⟨s0, s1, s2⟩, ⟨s3, s4, s5⟩, ⟨s6, s7, s8⟩, ⟨s9, s10, s11⟩, s12, s13, s14⟩ := hSw); (go_simp; try rfl)⟩) hH ?_
    simp only [Act.put, List.setIfInBounds_toArray, List.set_cons_zero, List.set_cons_succ]
    refine wpAnyH_take (i := 15) (v := _) (by simp only [List.getElem?_toArray, List.getElem?_cons_succ, List.getElem?_cons_zero]; rfl) (by kernel_rfl) (by kernel_rfl) (by kernel_rfl) (by exact fun _ _ _ h => h) (.inl ⟨by rfl, by (intro w hSw; try obtain ⟨⟨s0, s1, s2⟩, ⟨s3, s4, s5⟩, ⟨s6, s7, s8⟩, ⟨s9, s10, s11⟩, s12, s13, s14⟩ := hSw); (go_simp; try rfl)⟩) hH ?_
    simp only [Act.put, List.setIfInBounds_toArray, List.set_cons_zero, List.set_cons_succ]
    refine wpAnyH_take (i := 16) (v := _) (by simp only [List.getElem?_toArray, List.getElem?_cons_succ, List.getElem?_cons_zero]; rfl) (by kernel_rfl) (by kernel_rfl) (by kernel_rfl) (by exact fun _ _ _ h => h) (.inl ⟨by rfl, by (intro w hSw; try obtain ⟨⟨s0, s1, s2⟩, ⟨s3, s4, s5⟩, ⟨s6, s7, s8⟩, ⟨s9, s10, s11⟩, s12, s13, s14⟩ := hSw); (go_simp; try rfl)⟩) hH ?_
    simp only [Act.put, List.setIfInBounds_toArray, List.set_cons_zero, List.set_cons_succ]
    refine wpAnyH_take (i := 17) (v := _) (by simp only [List.getElem?_toArray, List.getElem?_cons_succ, List.getElem?_cons_zero]; rfl) (by kernel_rfl) (by kernel_rfl) (by kernel_rfl) (by exact fun _ _ _ h => h) (.inl ⟨by rfl, by (intro w hSw; try obtain ⟨⟨s0, s1, s2⟩, ⟨s3, s4, s5⟩, ⟨s6, s7, s8⟩, ⟨s9, s10, s11⟩, s12, s13, s14⟩ := hSw); (go_simp; try rfl)⟩) hH ?_
    simp only [Act.put, List.setIfInBounds_toArray, List.set_cons_zero, List.set_cons_succ]
    refine wpAnyH_take (i := 18) (v := _) (by simp only [List.getElem?_toArray, List.getElem?_cons_succ, List.getElem?_cons_zero]; rfl) (by kernel_rfl) (by kernel_rfl) (by kernel_rfl) (by exact fun _ _ _ h => h) (.inl ⟨by rfl, by (intro w hSw; try obtain ⟨⟨s0, s1, s2⟩, ⟨s3, s4, s5⟩, ⟨s6, s7, s8⟩, ⟨s9, s10, s11⟩, s12, s13, s14⟩ := hSw); (go_simp; try rfl)⟩) hH ?_
    simp only [Act.put, List.setIfInBounds_toArray, List.set_cons_zero, List.set_cons_succ]
    refine wpAnyH_take (i := 20) (v := _) (by simp only [List.getElem?_toArray, List.getElem?_cons_succ, List.getElem?_cons_zero]; rfl) (by kernel_rfl) (by kernel_rfl) (by kernel_rfl) (by exact fun _ _ _ h => h) (.inl ⟨by rfl, by (intro w hSw; try obtain ⟨⟨s0, s1, s2⟩, ⟨s3, s4, s5⟩, ⟨s6, s7, s8⟩, ⟨s9, s10, s11⟩, s12, s13, s14⟩ := hSw); (go_simp; try rfl)⟩) hH ?_
    simp only [Act.put, List.setIfInBounds_toArray, List.set_cons_zero, List.set_cons_succ]
    refine wpAnyH_take (i := 21) (v := _) (by simp only [List.getElem?_toArray, List.getElem?_cons_succ, List.getElem?_cons_zero]; rfl) (by kernel_rfl) (by kernel_rfl) (by kernel_rfl) (by exact fun _ _ _ h => h) (.inl ⟨by rfl, by (intro w hSw; try obtain ⟨⟨s0, s1, s2⟩, ⟨s3, s4, s5⟩, ⟨s6, s7, s8⟩, ⟨s9, s10, s11⟩, s12, s13, s14⟩ := hSw); (go_simp; try rfl)⟩) hH ?_
    simp only [Act.put, List.setIfInBounds_toArray, List.set_cons_zero, List.set_cons_succ]
    refine wpAnyH_ready (rs := [19]) (by kernel_rfl) (by simp) ?_
    refine AllReadyH.cons (by simp only [List.getElem?_toArray, List.getElem?_cons_succ, List.getElem?_cons_zero]; rfl) (fun K hK => ?_) AllReadyH.nil
    go_simp
    go_wp2_with (go_at_call 40; refine (L2.out _ T4).mono ?_; rintro e w10 ⟨rfl, T5, -⟩)
    clear hH
    refine hK.out _ _ ?_ (fun hH => ?_)
    · exact KK.out _ [] T5
    clear hK K
    refine wpAnyH_ready (rs := [22]) (by kernel_rfl) (by simp) ?_
    refine AllReadyH.cons (by simp only [List.getElem?_toArray, List.getElem?_cons_succ, List.getElem?_cons_zero]; rfl) (fun K hK => ?_) AllReadyH.nil
    go_simp
    go_wp2_with (go_at_call 41; refine (L2'.out _ T5).mono ?_; rintro e w11 ⟨rfl, T6⟩)
    clear hH
    refine hK.out _ _ ?_ (fun hH => ?_)
    · exact KK.out _ [] T6
    clear hK K
    refine wpAnyH_take (i := 23) (v := _) (by simp only [List.getElem?_toArray, List.getElem?_cons_succ, List.getElem?_cons_zero]; rfl) (by kernel_rfl) (by kernel_rfl) (by kernel_rfl) (by exact fun _ _ _ h => h) (.inl ⟨by rfl, by (intro w hSw; try obtain ⟨⟨s0, s1, s2⟩, ⟨s3, s4, s5⟩, ⟨s6, s7, s8⟩, ⟨s9, s10, s11⟩, s12, s13, s14⟩ := hSw); (go_simp; try rfl)⟩) hH ?_
    simp only [Act.put, List.setIfInBounds_toArray, List.set_cons_zero, List.set_cons_succ]
    refine wpAnyH_take (i := 24) (v := _) (by simp only [List.getElem?_toArray, List.getElem?_cons_succ, List.getElem?_cons_zero]; rfl) (by kernel_rfl) (by kernel_rfl) (by kernel_rfl) (by exact fun _ _ _ h => h) (.inl ⟨by rfl, by (intro w hSw; try obtain ⟨⟨s0, s1, s2⟩, ⟨s3, s4, s5⟩, ⟨s6, s7, s8⟩, ⟨s9, s10, s11⟩, s12, s13, s14⟩ := hSw); (go_simp; try rfl)⟩) hH ?_
    simp only [Act.put, List.setIfInBounds_toArray, List.set_cons_zero, List.set_cons_succ]
    refine wpAnyH_take (i := 25) (v := _) (by simp only [List.getElem?_toArray, List.getElem?_cons_succ, List.getElem?_cons_zero]; rfl) (by kernel_rfl) (by kernel_rfl) (by kernel_rfl) (by exact fun _ _ _ h => h) (.inl ⟨by rfl, by (intro w hSw; try obtain ⟨⟨s0, s1, s2⟩, ⟨s3, s4, s5⟩, ⟨s6, s7, s8⟩, ⟨s9, s10, s11⟩, s12, s13, s14⟩ := hSw); (go_simp; try rfl)⟩) hH ?_
    simp only [Act.put, List.setIfInBounds_toArray, List.set_cons_zero, List.set_cons_succ]
    as_aux_lemma =>
      refine wpAnyH_take (i := 26) (v := _) (by simp only [List.getElem?_toArray, List.getElem?_cons_succ, List.getElem?_cons_zero]; rfl) (by kernel_rfl) (by kernel_rfl) (by kernel_rfl) (by exact fun _ _ _ h => h) (.inl ⟨by rfl, by (intro w hSw; try obtain ⟨⟨s0, s1, s2⟩, ⟨s3, s4, s5⟩, ⟨s6, s7, s8⟩, ⟨s9, s10, s11⟩, s12, s13, s14⟩ := hSw); (go_simp; try rfl)⟩) hH ?_
      simp only [Act.put, List.setIfInBounds_toArray, List.set_cons_zero, List.set_cons_succ]
      refine wpAnyH_take (i := 27) (v := _) (by simp only [List.getElem?_toArray, List.getElem?_cons_succ, List.getElem?_cons_zero]; rfl) (by kernel_rfl) (by kernel_rfl) (by kernel_rfl) (by exact fun _ _ _ h => h) (.inl ⟨by rfl, by (intro w hSw; try obtain ⟨⟨s0, s1, s2⟩, ⟨s3, s4, s5⟩, ⟨s6, s7, s8⟩, ⟨s9, s10, s11⟩, s12, s13, s14⟩ := hSw); (go_simp; try rfl)⟩) hH ?_
      simp only [Act.put, List.setIfInBounds_toArray, List.set_cons_zero, List.set_cons_succ]
      refine wpAnyH_take (i := 29) (v := _) (by simp only [List.getElem?_toArray, List.getElem?_cons_succ, List.getElem?_cons_zero]; rfl) (by kernel_rfl) (by kernel_rfl) (by kernel_rfl) (by exact fun _ _ _ h => h) (.inl ⟨by rfl, by (intro w hSw; try obtain ⟨⟨s0, s1, s2⟩, ⟨s3, s4, s5⟩, ⟨s6, s7, s8⟩, ⟨s9, s10, s11⟩, s12, s13, s14⟩ := hSw); (go_simp; try rfl)⟩) hH ?_
      simp only [Act.put, List.setIfInBounds_toArray, List.set_cons_zero, List.set_cons_succ]
      refine wpAnyH_take (i := 30) (v := _) (by simp only [List.getElem?_toArray, List.getElem?_cons_succ, List.getElem?_cons_zero]; rfl) (by kernel_rfl) (by kernel_rfl) (by kernel_rfl) (by exact fun _ _ _ h => h) (.inl ⟨by rfl, by (intro w hSw; try obtain ⟨⟨s0, s1, s2⟩, ⟨s3, s4, s5⟩, ⟨s6, s7, s8⟩, ⟨s9, s10, s11⟩, s12, s13, s14⟩ := hSw); (go_simp; try rfl)⟩) hH ?_
      simp only [Act.put, List.setIfInBounds_toArray, List.set_cons_zero, List.set_cons_succ]
      refine wpAnyH_ready (rs := [28]) (by kernel_rfl) (by simp) ?_
      refine AllReadyH.cons (by simp only [List.getElem?_toArray, List.getElem?_cons_succ, List.getElem?_cons_zero]; rfl) (fun K hK => ?_) AllReadyH.nil
      go_simp
      go_wp2_with (go_at_call 43; refine (L3.out _ T6).mono ?_; rintro e w12 ⟨sv6, rfl, T7, -⟩; obtain ⟨sa6, sc6, rfl⟩ := (T7.row 0 rfl).form)
      clear hH
      refine hK.out _ _ ?_ (fun hH => ?_)
      · exact KK.out _ [_] T7
      clear hK K
      refine wpAnyH_ready (rs := [31]) (by kernel_rfl) (by simp) ?_
      refine AllReadyH.cons (by simp only [List.getElem?_toArray, List.getElem?_cons_succ, List.getElem?_cons_zero]; rfl) (fun K hK => ?_) AllReadyH.nil
      go_simp
      go_wp2_with (go_at_call 44; refine (L3'.out _ _ T7).mono ?_; rintro e w13 ⟨sv7, rfl, T8⟩; obtain ⟨sa7, sc7, rfl⟩ := (T8.row 0 rfl).form)
      clear hH
      refine hK.out _ _ ?_ (fun hH => ?_)
      · exact KK.out _ [_, _] T8
      clear hK K
      refine wpAnyH_ready (rs := [32]) (by kernel_rfl) (by simp) ?_
      refine AllReadyH.cons (by simp only [List.getElem?_toArray, List.getElem?_cons_succ, List.getElem?_cons_zero]; rfl) (fun K hK => ?_) AllReadyH.nil
      go_simp
      go_wp2_with (go_at_call 42; refine (KS.out _ _ _ _ _ _ T8).mono ?_; rintro e w14 ⟨rfl, T9⟩)
      clear hH
      refine hK.out _ _ ?_ (fun hH => ?_)
      · exact KK.out _ [] T9
      clear hK K
      refine wpAnyH_take (i := 33) (v := _) (by simp only [List.getElem?_toArray, List.getElem?_cons_succ, List.getElem?_cons_zero]; rfl) (by kernel_rfl) (by kernel_rfl) (by kernel_rfl) (by exact fun _ _ _ h => h) (.inl ⟨by rfl, by (intro w hSw; try obtain ⟨⟨s0, s1, s2⟩, ⟨s3, s4, s5⟩, ⟨s6, s7, s8⟩, ⟨s9, s10, s11⟩, s12, s13, s14⟩ := hSw); (go_simp; try rfl)⟩) hH ?_
      simp only [Act.put, List.setIfInBounds_toArray, List.set_cons_zero, List.set_cons_succ]
      refine wpAnyH_take (i := 34) (v := _) (by simp only [List.getElem?_toArray, List.getElem?_cons_succ, List.getElem?_cons_zero]; rfl) (by kernel_rfl) (by kernel_rfl) (by kernel_rfl) (by exact fun _ _ _ h => h) (.inl ⟨by rfl, by (intro w hSw; try obtain ⟨⟨s0, s1, s2⟩, ⟨s3, s4, s5⟩, ⟨s6, s7, s8⟩, ⟨s9, s10, s11⟩, s12, s13, s14⟩ := hSw); (go_simp; try rfl)⟩) hH ?_
      simp only [Act.put, List.setIfInBounds_toArray, List.set_cons_zero, List.set_cons_succ]
      refine wpAnyH_take (i := 35) (v := _) (by simp only [List.getElem?_toArray, List.getElem?_cons_succ, List.getElem?_cons_zero]; rfl) (by kernel_rfl) (by kernel_rfl) (by kernel_rfl) (by exact fun _ _ _ h => h) (.inl ⟨by rfl, by (intro w hSw; try obtain ⟨⟨s0, s1, s2⟩, ⟨s3, s4, s5⟩, ⟨s6, s7, s8⟩, ⟨s9, s10, s11⟩, s12, s13, s14⟩ := hSw); (go_simp; try rfl)⟩) hH ?_
      simp only [Act.put, List.setIfInBounds_toArray, List.set_cons_zero, List.set_cons_succ]
      refine wpAnyH_take (i := 36) (v := _) (by simp only [List.getElem?_toArray, List.getElem?_cons_succ, List.getElem?_cons_zero]; rfl) (by kernel_rfl) (by kernel_rfl) (by kernel_rfl) (by exact fun _ _ _ h => h) (.inl ⟨by rfl, by (intro w hSw; try obtain ⟨⟨s0, s1, s2⟩, ⟨s3, s4, s5⟩, ⟨s6, s7, s8⟩, ⟨s9, s10, s11⟩, s12, s13, s14⟩ := hSw); (go_simp; try rfl)⟩) hH ?_
      simp only [Act.put, List.setIfInBounds_toArray, List.set_cons_zero, List.set_cons_succ]
      refine wpAnyH_take (i := 38) (v := _) (by simp only [List.getElem?_toArray, List.getElem?_cons_succ, List.getElem?_cons_zero]; rfl) (by kernel_rfl) (by kernel_rfl) (by kernel_rfl) (by exact fun _ _ _ h => h) (.inl ⟨by rfl, by (intro w hSw; try obtain ⟨⟨s0, s1, s2⟩, ⟨s3, s4, s5⟩, ⟨s6, s7, s8⟩, ⟨s9, s10, s11⟩, s12, s13, s14⟩ := hSw); (go_simp; try rfl)⟩) hH ?_
      simp only [Act.put, List.setIfInBounds_toArray, List.set_cons_zero, List.set_cons_succ]
      refine wpAnyH_take (i := 39) (v := _) (by simp only [List.getElem?_toArray, List.getElem?_cons_succ, List.getElem?_cons_zero]; rfl) (by kernel_rfl) (by kernel_rfl) (by kernel_rfl) (by exact fun _ _ _ h => h) (.inl ⟨by rfl, by (intro w hSw; try obtain ⟨⟨s0, s1, s2⟩, ⟨s3, s4, s5⟩, ⟨s6, s7, s8⟩, ⟨s9, s10, s11⟩, s12, s13, s14⟩ := hSw); (go_simp; try rfl)⟩) hH ?_
      simp only [Act.put, List.setIfInBounds_toArray, List.set_cons_zero, List.set_cons_succ]
      refine wpAnyH_ready (rs := [37]) (by kernel_rfl) (by simp) ?_
      refine AllReadyH.cons (by simp only [List.getElem?_toArray, List.getElem?_cons_succ, List.getElem?_cons_zero]; rfl) (fun K hK => ?_) AllReadyH.nil
      go_simp
      go_wp2_with (go_at_call 45; refine (L7.out _ T9).mono ?_; rintro e w15 ⟨rfl, T10, -⟩)
      clear hH
      refine hK.out _ _ ?_ (fun hH => ?_)
      · exact KK.out _ [] T10
      clear hK K
      refine wpAnyH_ready (rs := [40]) (by kernel_rfl) (by simp) ?_
      refine AllReadyH.cons (by simp only [List.getElem?_toArray, List.getElem?_cons_succ, List.getElem?_cons_zero]; rfl) (fun K hK => ?_) AllReadyH.nil
      go_simp
      go_wp2_with (go_at_call 46; refine (L7'.out _ T10).mono ?_; rintro e w16 ⟨rfl, T11⟩)
      clear hH
      refine hK.out _ _ ?_ (fun hH => ?_)
      · exact KK.out _ [] T11
      clear hK K
      refine wpAnyH_take (i := 41) (v := _) (by simp only [List.getElem?_toArray, List.getElem?_cons_succ, List.getElem?_cons_zero]; rfl) (by kernel_rfl) (by kernel_rfl) (by kernel_rfl) (by exact fun _ _ _ h => h) (.inl ⟨by rfl, by (intro w hSw; try obtain ⟨⟨s0, s1, s2⟩, ⟨s3, s4, s5⟩, ⟨s6, s7, s8⟩, ⟨s9, s10, s11⟩, s12, s13, s14⟩ := hSw); (go_simp; try rfl)⟩) hH ?_
      simp only [Act.put, List.setIfInBounds_toArray, List.set_cons_zero, List.set_cons_succ]
      refine wpAnyH_take (i := 42) (v := _) (by simp only [List.getElem?_toArray, List.getElem?_cons_succ, List.getElem?_cons_zero]; rfl) (by kernel_rfl) (by kernel_rfl) (by kernel_rfl) (by exact fun _ _ _ h => h) (.inl ⟨by rfl, by (intro w hSw; try obtain ⟨⟨s0, s1, s2⟩, ⟨s3, s4, s5⟩, ⟨s6, s7, s8⟩, ⟨s9, s10, s11⟩, s12, s13, s14⟩ := hSw); (go_simp; try rfl)⟩) hH ?_
      simp only [Act.put, List.setIfInBounds_toArray, List.set_cons_zero, List.set_cons_succ]
      refine wpAnyH_take (i := 43) (v := _) (by simp only [List.getElem?_toArray, List.getElem?_cons_succ, List.getElem?_cons_zero]; rfl) (by kernel_rfl) (by kernel_rfl) (by kernel_rfl) (by exact fun _ _ _ h => h) (.inl ⟨by rfl, by (intro w hSw; try obtain ⟨⟨s0, s1, s2⟩, ⟨s3, s4, s5⟩, ⟨s6, s7, s8⟩, ⟨s9, s10, s11⟩, s12, s13, s14⟩ := hSw); (go_simp; try rfl)⟩) hH ?_
      simp only [Act.put, List.setIfInBounds_toArray, List.set_cons_zero, List.set_cons_succ]
      refine wpAnyH_take (i := 44) (v := _) (by simp only [List.getElem?_toArray, List.getElem?_cons_succ, List.getElem?_cons_zero]; rfl) (by kernel_rfl) (by kernel_rfl) (by kernel_rfl) (by exact fun _ _ _ h => h) (.inl ⟨by rfl, by (intro w hSw; try obtain ⟨⟨s0, s1, s2⟩, ⟨s3, s4, s5⟩, ⟨s6, s7, s8⟩, ⟨s9, s10, s11⟩, s12, s13, s14⟩ := hSw); (go_simp; try rfl)⟩) hH ?_
      simp only [Act.put, List.setIfInBounds_toArray, List.set_cons_zero, List.set_cons_succ]
      refine wpAnyH_take (i := 45) (v := _) (by simp only [List.getElem?_toArray, List.getElem?_cons_succ, List.getElem?_cons_zero]; rfl) (by kernel_rfl) (by kernel_rfl) (by kernel_rfl) (by exact fun _ _ _ h => h) (.inl ⟨by rfl, by (intro w hSw; try obtain ⟨⟨s0, s1, s2⟩, ⟨s3, s4, s5⟩, ⟨s6, s7, s8⟩, ⟨s9, s10, s11⟩, s12, s13, s14⟩ := hSw); (go_simp; try rfl)⟩) hH ?_
      simp only [Act.put, List.setIfInBounds_toArray, List.set_cons_zero, List.set_cons_succ]
      refine wpAnyH_take (i := 46) (v := _) (by simp only [List.getElem?_toArray, List.getElem?_cons_succ, List.getElem?_cons_zero]; rfl) (by kernel_rfl) (by kernel_rfl) (by kernel_rfl) (by exact fun _ _ _ h => h) (.inl ⟨by rfl, by (intro w hSw; try obtain ⟨⟨s0, s1, s2⟩, ⟨s3, s4, s5⟩, ⟨s6, s7, s8⟩, ⟨s9, s10, s11⟩, s12, s13, s14⟩ := hSw); (go_simp; try rfl)⟩) hH ?_
      simp only [Act.put, List.setIfInBounds_toArray, List.set_cons_zero, List.set_cons_succ]
      refine wpAnyH_take (i := 47) (v := _) (by simp only [List.getElem?_toArray, List.getElem?_cons_succ, List.getElem?_cons_zero]; rfl) (by kernel_rfl) (by kernel_rfl) (by kernel_rfl) (by exact fun _ _ _ h => h) (.inl ⟨by rfl, by (intro w hSw; try obtain ⟨⟨s0, s1, s2⟩, ⟨s3, s4, s5⟩, ⟨s6, s7, s8⟩, ⟨s9, s10, s11⟩, s12, s13, s14⟩ := hSw); (go_simp; try rfl)⟩) hH ?_
      simp only [Act.put, List.setIfInBounds_toArray, List.set_cons_zero, List.set_cons_succ]
      refine wpAnyH_take (i := 48) (v := _) (by simp only [List.getElem?_toArray, List.getElem?_cons_succ, List.getElem?_cons_zero]; rfl) (by kernel_rfl) (by kernel_rfl) (by kernel_rfl) (by exact fun _ _ _ h => h) (.inl ⟨by rfl, by (intro w hSw; try obtain ⟨⟨s0, s1, s2⟩, ⟨s3, s4, s5⟩, ⟨s6, s7, s8⟩, ⟨s9, s10, s11⟩, s12, s13, s14⟩ := hSw); (go_simp; try rfl)⟩) hH ?_
      simp only [Act.put, List.setIfInBounds_toArray, List.set_cons_zero, List.set_cons_succ]
      refine wpAnyH_take (i := 49) (v := _) (by simp only [List.getElem?_toArray, List.getElem?_cons_succ, List.getElem?_cons_zero]; rfl) (by kernel_rfl) (by kernel_rfl) (by kernel_rfl) (by exact fun _ _ _ h => h) (.inl ⟨by rfl, by (intro w hSw; try obtain ⟨⟨s0, s1, s2⟩, ⟨s3, s4, s5⟩, ⟨s6, s7, s8⟩, ⟨s9, s10, s11⟩, s12, s13, s14⟩ := hSw); (go_simp; try rfl)⟩) hH ?_
      simp only [Act.put, List.setIfInBounds_toArray, List.set_cons_zero, List.set_cons_succ]
      refine wpAnyH_take (i := 50) (v := _) (by simp only [List.getElem?_toArray, List.getElem?_cons_succ, List.getElem?_cons_zero]; rfl) (by kernel_rfl) (by kernel_rfl) (by kernel_rfl) (by exact fun _ _ _ h => h) (.inl ⟨by rfl, by (intro w hSw; try obtain ⟨⟨s0, s1, s2⟩, ⟨s3, s4, s5⟩, ⟨s6, s7, s8⟩, ⟨s9, s10, s11⟩, s12, s13, s14⟩ := hSw); (go_simp; try rfl)⟩) hH ?_
      simp only [Act.put, List.setIfInBounds_toArray, List.set_cons_zero, List.set_cons_succ]
      refine wpAnyH_take (i := 51) (v := _) (by simp only [List.getElem?_toArray, List.getElem?_cons_succ, List.getElem?_cons_zero]; rfl) (by kernel_rfl) (by kernel_rfl) (by kernel_rfl) (by exact fun _ _ _ h => h) (.inl ⟨by rfl, by (intro w hSw; try obtain ⟨⟨s0, s1, s2⟩, ⟨s3, s4, s5⟩, ⟨s6, s7, s8⟩, ⟨s9, s10, s11⟩, s12, s13, s14⟩ := hSw); (go_simp; try rfl)⟩) hH ?_
      simp only [Act.put, List.setIfInBounds_toArray, List.set_cons_zero, List.set_cons_succ]
      as_aux_lemma =>
        refine wpAnyH_take (i := 52) (v := _) (by simp only [List.getElem?_toArray, List.getElem?_cons_succ, List.getElem?_cons_zero]; rfl) (by kernel_rfl) (by kernel_rfl) (by kernel_rfl) (by exact fun _ _ _ h => h) (.inl ⟨by rfl, by (intro w hSw; try obtain ⟨⟨s0, s1, s2⟩, ⟨s3, s4, s5⟩, ⟨s6, s7, s8⟩, ⟨s9, s10, s11⟩, s12, s13, s14⟩ := hSw); (go_simp; try rfl)⟩) hH ?_
        simp only [Act.put, List.setIfInBounds_toArray, List.set_cons_zero, List.set_cons_succ]
        refine wpAnyH_take (i := 53) (v := _) (by simp only [List.getElem?_toArray, List.getElem?_cons_succ, List.getElem?_cons_zero]; rfl) (by kernel_rfl) (by kernel_rfl) (by kernel_rfl) (by exact fun _ _ _ h => h) (.inl ⟨by rfl, by (intro w hSw; try obtain ⟨⟨s0, s1, s2⟩, ⟨s3, s4, s5⟩, ⟨s6, s7, s8⟩, ⟨s9, s10, s11⟩, s12, s13, s14⟩ := hSw); (go_simp; try rfl)⟩) hH ?_
        simp only [Act.put, List.setIfInBounds_toArray, List.set_cons_zero, List.set_cons_succ]
        refine wpAnyH_take (i := 54) (v := _) (by simp only [List.getElem?_toArray, List.getElem?_cons_succ, List.getElem?_cons_zero]; rfl) (by kernel_rfl) (by kernel_rfl) (by kernel_rfl) (by exact fun _ _ _ h => h) (.inl ⟨by rfl, by (intro w hSw; try obtain ⟨⟨s0, s1, s2⟩, ⟨s3, s4, s5⟩, ⟨s6, s7, s8⟩, ⟨s9, s10, s11⟩, s12, s13, s14⟩ := hSw); (go_simp; try rfl)⟩) hH ?_
        simp only [Act.put, List.setIfInBounds_toArray, List.set_cons_zero, List.set_cons_succ]
        refine wpAnyH_take (i := 55) (v := _) (by simp only [List.getElem?_toArray, List.getElem?_cons_succ, List.getElem?_cons_zero]; rfl) (by kernel_rfl) (by kernel_rfl) (by kernel_rfl) (by exact fun _ _ _ h => h) (.inl ⟨by rfl, by (intro w hSw; try obtain ⟨⟨s0, s1, s2⟩, ⟨s3, s4, s5⟩, ⟨s6, s7, s8⟩, ⟨s9, s10, s11⟩, s12, s13, s14⟩ := hSw); (go_simp; try rfl)⟩) hH ?_
        simp only [Act.put, List.setIfInBounds_toArray, List.set_cons_zero, List.set_cons_succ]
        refine wpAnyH_take (i := 56) (v := _) (by simp only [List.getElem?_toArray, List.getElem?_cons_succ, List.getElem?_cons_zero]; rfl) (by kernel_rfl) (by kernel_rfl) (by kernel_rfl) (by exact fun _ _ _ h => h) (.inl ⟨by rfl, by (intro w hSw; try obtain ⟨⟨s0, s1, s2⟩, ⟨s3, s4, s5⟩, ⟨s6, s7, s8⟩, ⟨s9, s10, s11⟩, s12, s13, s14⟩ := hSw); (go_simp; try rfl)⟩) hH ?_
        simp only [Act.put, List.setIfInBounds_toArray, List.set_cons_zero, List.set_cons_succ]
        refine wpAnyH_take (i := 57) (v := _) (by simp only [List.getElem?_toArray, List.getElem?_cons_succ, List.getElem?_cons_zero]; rfl) (by kernel_rfl) (by kernel_rfl) (by kernel_rfl) (by exact fun _ _ _ h => h) (.inl ⟨by rfl, by (intro w hSw; try obtain ⟨⟨s0, s1, s2⟩, ⟨s3, s4, s5⟩, ⟨s6, s7, s8⟩, ⟨s9, s10, s11⟩, s12, s13, s14⟩ := hSw); (go_simp; try rfl)⟩) hH ?_
        simp only [Act.put, List.setIfInBounds_toArray, List.set_cons_zero, List.set_cons_succ]
        refine wpAnyH_take (i := 58) (v := _) (by simp only [List.getElem?_toArray, List.getElem?_cons_succ, List.getElem?_cons_zero]; rfl) (by kernel_rfl) (by kernel_rfl) (by kernel_rfl) (by exact fun _ _ _ h => h) (.inl ⟨by rfl, by (intro w hSw; try obtain ⟨⟨s0, s1, s2⟩, ⟨s3, s4, s5⟩, ⟨s6, s7, s8⟩, ⟨s9, s10, s11⟩, s12, s13, s14⟩ := hSw); (go_simp; try rfl)⟩) hH ?_
        simp only [Act.put, List.setIfInBounds_toArray, List.set_cons_zero, List.set_cons_succ]
        refine wpAnyH_take (i := 59) (v := _) (by simp only [List.getElem?_toArray, List.getElem?_cons_succ, List.getElem?_cons_zero]; rfl) (by kernel_rfl) (by kernel_rfl) (by kernel_rfl) (by exact fun _ _ _ h => h) (.inl ⟨by rfl, by (intro w hSw; try obtain ⟨⟨s0, s1, s2⟩, ⟨s3, s4, s5⟩, ⟨s6, s7, s8⟩, ⟨s9, s10, s11⟩, s12, s13, s14⟩ := hSw); (go_simp; try rfl)⟩) hH ?_
        simp only [Act.put, List.setIfInBounds_toArray, List.set_cons_zero, List.set_cons_succ]
        refine wpAnyH_take (i := 60) (v := _) (by simp only [List.getElem?_toArray, List.getElem?_cons_succ, List.getElem?_cons_zero]; rfl) (by kernel_rfl) (by kernel_rfl) (by kernel_rfl) (by exact fun _ _ _ h => h) (.inl ⟨by rfl, by (intro w hSw; try obtain ⟨⟨s0, s1, s2⟩, ⟨s3, s4, s5⟩, ⟨s6, s7, s8⟩, ⟨s9, s10, s11⟩, s12, s13, s14⟩ := hSw); (go_simp; try rfl)⟩) hH ?_
        simp only [Act.put, List.setIfInBounds_toArray, List.set_cons_zero, List.set_cons_succ]
        refine wpAnyH_take (i := 61) (v := _) (by simp only [List.getElem?_toArray, List.getElem?_cons_succ, List.getElem?_cons_zero]; rfl) (by kernel_rfl) (by kernel_rfl) (by kernel_rfl) (by exact fun _ _ _ h => h) (.inl ⟨by rfl, by (intro w hSw; try obtain ⟨⟨s0, s1, s2⟩, ⟨s3, s4, s5⟩, ⟨s6, s7, s8⟩, ⟨s9, s10, s11⟩, s12, s13, s14⟩ := hSw); (go_simp; try rfl)⟩) hH ?_
        simp only [Act.put, List.setIfInBounds_toArray, List.set_cons_zero, List.set_cons_succ]
        refine wpAnyH_take (i := 62) (v := _) (by simp only [List.getElem?_toArray, List.getElem?_cons_succ, List.getElem?_cons_zero]; rfl) (by kernel_rfl) (by kernel_rfl) (by kernel_rfl) (by exact fun _ _ _ h => h) (.inl ⟨by rfl, by (intro w hSw; try obtain ⟨⟨s0, s1, s2⟩, ⟨s3, s4, s5⟩, ⟨s6, s7, s8⟩, ⟨s9, s10, s11⟩, s12, s13, s14⟩ := hSw); (go_simp; try rfl)⟩) hH ?_
        simp only [Act.put, List.setIfInBounds_toArray, List.set_cons_zero, List.set_cons_succ]
        refine wpAnyH_take (i := 63) (v := _) (by simp only [List.getElem?_toArray, List.getElem?_cons_succ, List.getElem?_cons_zero]; rfl) (by kernel_rfl) (by kernel_rfl) (by kernel_rfl) (by exact fun _ _ _ h => h) (.inl ⟨by rfl, by (intro w hSw; try obtain ⟨⟨s0, s1, s2⟩, ⟨s3, s4, s5⟩, ⟨s6, s7, s8⟩, ⟨s9, s10, s11⟩, s12, s13, s14⟩ := hSw); (go_simp; try rfl)⟩) hH ?_
        simp only [Act.put, List.setIfInBounds_toArray, List.set_cons_zero, List.set_cons_succ]
        refine wpAnyH_take (i := 64) (v := _) (by simp only [List.getElem?_toArray, List.getElem?_cons_succ, List.getElem?_cons_zero]; rfl) (by kernel_rfl) (by kernel_rfl) (by kernel_rfl) (by exact fun _ _ _ h => h) (.inl ⟨by rfl, by (intro w hSw; try obtain ⟨⟨s0, s1, s2⟩, ⟨s3, s4, s5⟩, ⟨s6, s7, s8⟩, ⟨s9, s10, s11⟩, s12, s13, s14⟩ := hSw); (go_simp; try rfl)⟩) hH ?_
        simp only [Act.put, List.setIfInBounds_toArray, List.set_cons_zero, List.set_cons_succ]
        refine wpAnyH_take (i := 65) (v := _) (by simp only [List.getElem?_toArray, List.getElem?_cons_succ, List.getElem?_cons_zero]; rfl) (by kernel_rfl) (by kernel_rfl) (by kernel_rfl) (by exact fun _ _ _ h => h) (.inl ⟨by rfl, by (intro w hSw; try obtain ⟨⟨s0, s1, s2⟩, ⟨s3, s4, s5⟩, ⟨s6, s7, s8⟩, ⟨s9, s10, s11⟩, s12, s13, s14⟩ := hSw); (go_simp; try rfl)⟩) hH ?_
        simp only [Act.put, List.setIfInBounds_toArray, List.set_cons_zero, List.set_cons_succ]
        refine wpAnyH_take (i := 67) (v := _) (by simp only [List.getElem?_toArray, List.getElem?_cons_succ, List.getElem?_cons_zero]; rfl) (by kernel_rfl) (by kernel_rfl) (by kernel_rfl) (by exact fun _ _ _ h => h) (.inl ⟨by rfl, by (intro w hSw; try obtain ⟨⟨s0, s1, s2⟩, ⟨s3, s4, s5⟩, ⟨s6, s7, s8⟩, ⟨s9, s10, s11⟩, s12, s13, s14⟩ := hSw); (go_simp; try rfl)⟩) hH ?_
        simp only [Act.put, List.setIfInBounds_toArray, List.set_cons_zero, List.set_cons_succ]
        refine wpAnyH_take (i := 68) (v := _) (by simp only [List.getElem?_toArray, List.getElem?_cons_succ, List.getElem?_cons_zero]; rfl) (by kernel_rfl) (by kernel_rfl) (by kernel_rfl) (by exact fun _ _ _ h => h) (.inl ⟨by rfl, by (intro w hSw; try obtain ⟨⟨s0, s1, s2⟩, ⟨s3, s4, s5⟩, ⟨s6, s7, s8⟩, ⟨s9, s10, s11⟩, s12, s13, s14⟩ := hSw); (go_simp; try rfl)⟩) hH ?_
        simp only [Act.put, List.setIfInBounds_toArray, List.set_cons_zero, List.set_cons_succ]
        refine wpAnyH_ready (rs := [66]) (by kernel_rfl) (by simp) ?_
        refine AllReadyH.cons (by simp only [List.getElem?_toArray, List.getElem?_cons_succ, List.getElem?_cons_zero]; rfl) (fun K hK => ?_) AllReadyH.nil
        go_simp
        go_wp2_with (go_at_call 47; refine (L4.out _ T11).mono ?_; rintro e w17 ⟨sv11, rfl, T12, -⟩; obtain ⟨sa11, sc11, rfl⟩ := (T12.row 0 rfl).form)
        clear hH
        refine hK.out _ _ ?_ (fun hH => ?_)
        · exact KK.out _ [_] T12
        clear hK K
        refine wpAnyH_ready (rs := [69]) (by kernel_rfl) (by simp) ?_
        refine AllReadyH.cons (by simp only [List.getElem?_toArray, List.getElem?_cons_succ, List.getElem?_cons_zero]; rfl) (fun K hK => ?_) AllReadyH.nil
        go_simp
        go_wp2_with (go_at_call 48; refine (L4'.out _ _ T12).mono ?_; rintro e w18 ⟨sv12, rfl, T13⟩; obtain ⟨sa12, sc12, rfl⟩ := (T13.row 0 rfl).form)
        clear hH
        refine hK.out _ _ ?_ (fun hH => ?_)
        · exact KK.out _ [_, _] T13
        clear hK K
        refine wpAnyH_ready (rs := [70]) (by kernel_rfl) (by simp) ?_
        refine AllReadyH.cons (by simp only [List.getElem?_toArray, List.getElem?_cons_succ, List.getElem?_cons_zero]; rfl) (fun K hK => ?_) AllReadyH.nil
        go_simp
        go_wp2_with (go_at_call 42; refine (KS.out _ _ _ _ _ _ T13).mono ?_; rintro e w19 ⟨rfl, T14⟩)
        clear hH
        refine hK.out _ _ ?_ (fun hH => ?_)
        · exact KK.out _ [] T14
        clear hK K
        refine wpAnyH_take (i := 71) (v := _) (by simp only [List.getElem?_toArray, List.getElem?_cons_succ, List.getElem?_cons_zero]; rfl) (by kernel_rfl) (by kernel_rfl) (by kernel_rfl) (by exact fun _ _ _ h => h) (.inl ⟨by rfl, by (intro w hSw; try obtain ⟨⟨s0, s1, s2⟩, ⟨s3, s4, s5⟩, ⟨s6, s7, s8⟩, ⟨s9, s10, s11⟩, s12, s13, s14⟩ := hSw); (go_simp; try rfl)⟩) hH ?_
        simp only [Act.put, List.setIfInBounds_toArray, List.set_cons_zero, List.set_cons_succ]
        refine wpAnyH_take (i := 72) (v := _) (by simp only [List.getElem?_toArray, List.getElem?_cons_succ, List.getElem?_cons_zero]; rfl) (by kernel_rfl) (by kernel_rfl) (by kernel_rfl) (by exact fun _ _ _ h => h) (.inl ⟨by rfl, by (intro w hSw; try obtain ⟨⟨s0, s1, s2⟩, ⟨s3, s4, s5⟩, ⟨s6, s7, s8⟩, ⟨s9, s10, s11⟩, s12, s13, s14⟩ := hSw); (go_simp; try rfl)⟩) hH ?_
        simp only [Act.put, List.setIfInBounds_toArray, List.set_cons_zero, List.set_cons_succ]
        refine wpAnyH_take (i := 73) (v := _) (by simp only [List.getElem?_toArray, List.getElem?_cons_succ, List.getElem?_cons_zero]; rfl) (by kernel_rfl) (by kernel_rfl) (by kernel_rfl) (by exact fun _ _ _ h => h) (.inl ⟨by rfl, by (intro w hSw; try obtain ⟨⟨s0, s1, s2⟩, ⟨s3, s4, s5⟩, ⟨s6, s7, s8⟩, ⟨s9, s10, s11⟩, s12, s13, s14⟩ := hSw); (go_simp; try rfl)⟩) hH ?_
        simp only [Act.put, List.setIfInBounds_toArray, List.set_cons_zero, List.set_cons_succ]
        refine wpAnyH_take (i := 74) (v := _) (by simp only [List.getElem?_toArray, List.getElem?_cons_succ, List.getElem?_cons_zero]; rfl) (by kernel_rfl) (by kernel_rfl) (by kernel_rfl) (by exact fun _ _ _ h => h) (.inl ⟨by rfl, by (intro w hSw; try obtain ⟨⟨s0, s1, s2⟩, ⟨s3, s4, s5⟩, ⟨s6, s7, s8⟩, ⟨s9, s10, s11⟩, s12, s13, s14⟩ := hSw); (go_simp; try rfl)⟩) hH ?_
        simp only [Act.put, List.setIfInBounds_toArray, List.set_cons_zero, List.set_cons_succ]
        refine wpAnyH_take (i := 76) (v := _) (by simp only [List.getElem?_toArray, List.getElem?_cons_succ, List.getElem?_cons_zero]; rfl) (by kernel_rfl) (by kernel_rfl) (by kernel_rfl) (by exact fun _ _ _ h => h) (.inl ⟨by rfl, by (intro w hSw; try obtain ⟨⟨s0, s1, s2⟩, ⟨s3, s4, s5⟩, ⟨s6, s7, s8⟩, ⟨s9, s10, s11⟩, s12, s13, s14⟩ := hSw); (go_simp; try rfl)⟩) hH ?_
        simp only [Act.put, List.setIfInBounds_toArray, List.set_cons_zero, List.set_cons_succ]
        refine wpAnyH_take (i := 77) (v := _) (by simp only [List.getElem?_toArray, List.getElem?_cons_succ, List.getElem?_cons_zero]; rfl) (by kernel_rfl) (by kernel_rfl) (by kernel_rfl) (by exact fun _ _ _ h => h) (.inl ⟨by rfl, by (intro w hSw; try obtain ⟨⟨s0, s1, s2⟩, ⟨s3, s4, s5⟩, ⟨s6, s7, s8⟩, ⟨s9, s10, s11⟩, s12, s13, s14⟩ := hSw); (go_simp; try rfl)⟩) hH ?_
        simp only [Act.put, List.setIfInBounds_toArray, List.set_cons_zero, List.set_cons_succ]
        refine wpAnyH_ready (rs := [75]) (by kernel_rfl) (by simp) ?_
        refine AllReadyH.cons (by simp only [List.getElem?_toArray, List.getElem?_cons_succ, List.getElem?_cons_zero]; rfl) (fun K hK => ?_) AllReadyH.nil
        go_simp
        go_wp2_with (go_at_call 49; refine (L8.out _ T14).mono ?_; rintro e w20 ⟨rfl, T15, -⟩)
        clear hH
        refine hK.out _ _ ?_ (fun hH => ?_)
        · exact KK.out _ [] T15
        clear hK K
        as_aux_lemma =>
          refine wpAnyH_ready (rs := [78]) (by kernel_rfl) (by simp) ?_
          refine AllReadyH.cons (by simp only [List.getElem?_toArray, List.getElem?_cons_succ, List.getElem?_cons_zero]; rfl) (fun K hK => ?_) AllReadyH.nil
          go_simp
          go_wp2_with (go_at_call 48; refine (L4''.out _ T15).mono ?_; rintro e w21 ⟨sv15, rfl, T16⟩; obtain ⟨sa15, sc15, rfl⟩ := (T16.row 0 rfl).form; replace T16 := Sep.tail T16)
          clear hH
          refine hK.out _ _ ?_ (fun hH => ?_)
          · exact KK.out _ [] T16
          clear hK K
          refine wpAnyH_take (i := 79) (v := _) (by simp only [List.getElem?_toArray, List.getElem?_cons_succ, List.getElem?_cons_zero]; rfl) (by kernel_rfl) (by kernel_rfl) (by kernel_rfl) (by exact fun _ _ _ h => h) (.inl ⟨by rfl, by (intro w hSw; try obtain ⟨⟨s0, s1, s2⟩, ⟨s3, s4, s5⟩, ⟨s6, s7, s8⟩, ⟨s9, s10, s11⟩, s12, s13, s14⟩ := hSw); (go_simp; try rfl)⟩) hH ?_
          simp only [Act.put, List.setIfInBounds_toArray, List.set_cons_zero, List.set_cons_succ]
          refine wpAnyH_take (i := 80) (v := _) (by simp only [List.getElem?_toArray, List.getElem?_cons_succ, List.getElem?_cons_zero]; rfl) (by kernel_rfl) (by kernel_rfl) (by kernel_rfl) (by exact fun _ _ _ h => h) (.inl ⟨by rfl, by (intro w hSw; try obtain ⟨⟨s0, s1, s2⟩, ⟨s3, s4, s5⟩, ⟨s6, s7, s8⟩, ⟨s9, s10, s11⟩, s12, s13, s14⟩ := hSw); (go_simp; try rfl)⟩) hH ?_
          simp only [Act.put, List.setIfInBounds_toArray, List.set_cons_zero, List.set_cons_succ]
          refine wpAnyH_take (i := 81) (v := _) (by simp only [List.getElem?_toArray, List.getElem?_cons_succ, List.getElem?_cons_zero]; rfl) (by kernel_rfl) (by kernel_rfl) (by kernel_rfl) (by exact fun _ _ _ h => h) (.inl ⟨by rfl, by (intro w hSw; try obtain ⟨⟨s0, s1, s2⟩, ⟨s3, s4, s5⟩, ⟨s6, s7, s8⟩, ⟨s9, s10, s11⟩, s12, s13, s14⟩ := hSw); (go_simp; try rfl)⟩) hH ?_
          simp only [Act.put, List.setIfInBounds_toArray, List.set_cons_zero, List.set_cons_succ]
          refine wpAnyH_take (i := 82) (v := _) (by simp only [List.getElem?_toArray, List.getElem?_cons_succ, List.getElem?_cons_zero]; rfl) (by kernel_rfl) (by kernel_rfl) (by kernel_rfl) (by exact fun _ _ _ h => h) (.inl ⟨by rfl, by (intro w hSw; try obtain ⟨⟨s0, s1, s2⟩, ⟨s3, s4, s5⟩, ⟨s6, s7, s8⟩, ⟨s9, s10, s11⟩, s12, s13, s14⟩ := hSw); (go_simp; try rfl)⟩) hH ?_
          simp only [Act.put, List.setIfInBounds_toArray, List.set_cons_zero, List.set_cons_succ]
          refine wpAnyH_take (i := 83) (v := _) (by simp only [List.getElem?_toArray, List.getElem?_cons_succ, List.getElem?_cons_zero]; rfl) (by kernel_rfl) (by kernel_rfl) (by kernel_rfl) (by exact fun _ _ _ h => h) (.inl ⟨by rfl, by (intro w hSw; try obtain ⟨⟨s0, s1, s2⟩, ⟨s3, s4, s5⟩, ⟨s6, s7, s8⟩, ⟨s9, s10, s11⟩, s12, s13, s14⟩ := hSw); (go_simp; try rfl)⟩) hH ?_
          simp only [Act.put, List.setIfInBounds_toArray, List.set_cons_zero, List.set_cons_succ]
          refine wpAnyH_take (i := 84) (v := _) (by simp only [List.getElem?_toArray, List.getElem?_cons_succ, List.getElem?_cons_zero]; rfl) (by kernel_rfl) (by kernel_rfl) (by kernel_rfl) (by exact fun _ _ _ h => h) (.inl ⟨by rfl, by (intro w hSw; try obtain ⟨⟨s0, s1, s2⟩, ⟨s3, s4, s5⟩, ⟨s6, s7, s8⟩, ⟨s9, s10, s11⟩, s12, s13, s14⟩ := hSw); (go_simp; try rfl)⟩) hH ?_
          simp only [Act.put, List.setIfInBounds_toArray, List.set_cons_zero, List.set_cons_succ]
          refine wpAnyH_take (i := 86) (v := _) (by simp only [List.getElem?_toArray, List.getElem?_cons_succ, List.getElem?_cons_zero]; rfl) (by kernel_rfl) (by kernel_rfl) (by kernel_rfl) (by exact fun _ _ _ h => h) (.inl ⟨by rfl, by (intro w hSw; try obtain ⟨⟨s0, s1, s2⟩, ⟨s3, s4, s5⟩, ⟨s6, s7, s8⟩, ⟨s9, s10, s11⟩, s12, s13, s14⟩ := hSw); (go_simp; try rfl)⟩) hH ?_
          simp only [Act.put, List.setIfInBounds_toArray, List.set_cons_zero, List.set_cons_succ]
          refine wpAnyH_take (i := 87) (v := _) (by simp only [List.getElem?_toArray, List.getElem?_cons_succ, List.getElem?_cons_zero]; rfl) (by kernel_rfl) (by kernel_rfl) (by kernel_rfl) (by exact fun _ _ _ h => h) (.inl ⟨by rfl, by (intro w hSw; try obtain ⟨⟨s0, s1, s2⟩, ⟨s3, s4, s5⟩, ⟨s6, s7, s8⟩, ⟨s9, s10, s11⟩, s12, s13, s14⟩ := hSw); (go_simp; try rfl)⟩) hH ?_
          simp only [Act.put, List.setIfInBounds_toArray, List.set_cons_zero, List.set_cons_succ]
          refine wpAnyH_ready (rs := [85]) (by kernel_rfl) (by simp) ?_
          refine AllReadyH.cons (by simp only [List.getElem?_toArray, List.getElem?_cons_succ, List.getElem?_cons_zero]; rfl) (fun K hK => ?_) AllReadyH.nil
          go_simp
          go_wp2_with (go_at_call 50; refine (L9.out _ T16).mono ?_; rintro e w22 ⟨rfl, T17, -⟩)
          clear hH
          refine hK.out _ _ ?_ (fun hH => ?_)
          · exact KK.out _ [] T17
          clear hK K
          refine wpAnyH_ready (rs := [88]) (by kernel_rfl) (by simp) ?_
          refine AllReadyH.cons (by simp only [List.getElem?_toArray, List.getElem?_cons_succ, List.getElem?_cons_zero]; rfl) (fun K hK => ?_) AllReadyH.nil
          go_simp
          go_wp2_with (go_at_call 51; refine (L9'.out _ T17).mono ?_; rintro e w23 ⟨rfl, T18⟩)
          clear hH
          refine hK.out _ _ ?_ (fun hH => ?_)
          · exact KK.out _ [] T18
          clear hK K
          refine wpAnyH_take (i := 89) (v := _) (by simp only [List.getElem?_toArray, List.getElem?_cons_succ, List.getElem?_cons_zero]; rfl) (by kernel_rfl) (by kernel_rfl) (by kernel_rfl) (by exact fun _ _ _ h => h) (.inl ⟨by rfl, by (intro w hSw; try obtain ⟨⟨s0, s1, s2⟩, ⟨s3, s4, s5⟩, ⟨s6, s7, s8⟩, ⟨s9, s10, s11⟩, s12, s13, s14⟩ := hSw); (go_simp; try rfl)⟩) hH ?_
          simp only [Act.put, List.setIfInBounds_toArray, List.set_cons_zero, List.set_cons_succ]
          refine wpAnyH_take (i := 90) (v := _) (by simp only [List.getElem?_toArray, List.getElem?_cons_succ, List.getElem?_cons_zero]; rfl) (by kernel_rfl) (by kernel_rfl) (by kernel_rfl) (by exact fun _ _ _ h => h) (.inl ⟨by rfl, by (intro w hSw; try obtain ⟨⟨s0, s1, s2⟩, ⟨s3, s4, s5⟩, ⟨s6, s7, s8⟩, ⟨s9, s10, s11⟩, s12, s13, s14⟩ := hSw); (go_simp; try rfl)⟩) hH ?_
          simp only [Act.put, List.setIfInBounds_toArray, List.set_cons_zero, List.set_cons_succ]
          refine wpAnyH_take (i := 91) (v := _) (by simp only [List.getElem?_toArray, List.getElem?_cons_succ, List.getElem?_cons_zero]; rfl) (by kernel_rfl) (by kernel_rfl) (by kernel_rfl) (by exact fun _ _ _ h => h) (.inl ⟨by rfl, by (intro w hSw; try obtain ⟨⟨s0, s1, s2⟩, ⟨s3, s4, s5⟩, ⟨s6, s7, s8⟩, ⟨s9, s10, s11⟩, s12, s13, s14⟩ := hSw); (go_simp; try rfl)⟩) hH ?_
          simp only [Act.put, List.setIfInBounds_toArray, List.set_cons_zero, List.set_cons_succ]
          refine wpAnyH_take (i := 92) (v := _) (by simp only [List.getElem?_toArray, List.getElem?_cons_succ, List.getElem?_cons_zero]; rfl) (by kernel_rfl) (by kernel_rfl) (by kernel_rfl) (by exact fun _ _ _ h => h) (.inl ⟨by rfl, by (intro w hSw; try obtain ⟨⟨s0, s1, s2⟩, ⟨s3, s4, s5⟩, ⟨s6, s7, s8⟩, ⟨s9, s10, s11⟩, s12, s13, s14⟩ := hSw); (go_simp; try rfl)⟩) hH ?_
          simp only [Act.put, List.setIfInBounds_toArray, List.set_cons_zero, List.set_cons_succ]
          refine wpAnyH_take (i := 93) (v := _) (by simp only [List.getElem?_toArray, List.getElem?_cons_succ, List.getElem?_cons_zero]; rfl) (by kernel_rfl) (by kernel_rfl) (by kernel_rfl) (by exact fun _ _ _ h => h) (.inl ⟨by rfl, by (intro w hSw; try obtain ⟨⟨s0, s1, s2⟩, ⟨s3, s4, s5⟩, ⟨s6, s7, s8⟩, ⟨s9, s10, s11⟩, s12, s13, s14⟩ := hSw); (go_simp; try rfl)⟩) hH ?_
          simp only [Act.put, List.setIfInBounds_toArray, List.set_cons_zero, List.set_cons_succ]
          refine wpAnyH_take (i := 95) (v := _) (by simp only [List.getElem?_toArray, List.getElem?_cons_succ, List.getElem?_cons_zero]; rfl) (by kernel_rfl) (by kernel_rfl) (by kernel_rfl) (by exact fun _ _ _ h => h) (.inl ⟨by rfl, by (intro w hSw; try obtain ⟨⟨s0, s1, s2⟩, ⟨s3, s4, s5⟩, ⟨s6, s7, s8⟩, ⟨s9, s10, s11⟩, s12, s13, s14⟩ := hSw); (go_simp; try rfl)⟩) hH ?_
          simp only [Act.put, List.setIfInBounds_toArray, List.set_cons_zero, List.set_cons_succ]
          refine wpAnyH_take (i := 96) (v := _) (by simp only [List.getElem?_toArray, List.getElem?_cons_succ, List.getElem?_cons_zero]; rfl) (by kernel_rfl) (by kernel_rfl) (by kernel_rfl) (by exact fun _ _ _ h => h) (.inl ⟨by rfl, by (intro w hSw; try obtain ⟨⟨s0, s1, s2⟩, ⟨s3, s4, s5⟩, ⟨s6, s7, s8⟩, ⟨s9, s10, s11⟩, s12, s13, s14⟩ := hSw); (go_simp; try rfl)⟩) hH ?_
          simp only [Act.put, List.setIfInBounds_toArray, List.set_cons_zero, List.set_cons_succ]
          refine wpAnyH_ready (rs := [94]) (by kernel_rfl) (by simp) ?_
          refine AllReadyH.cons (by simp only [List.getElem?_toArray, List.getElem?_cons_succ, List.getElem?_cons_zero]; rfl) (fun K hK => ?_) AllReadyH.nil
          go_simp
          go_wp2_with (go_at_call 52; refine (L5.out _ T18).mono ?_; rintro e w24 ⟨sv18, rfl, T19, -⟩; obtain ⟨sa18, sc18, rfl⟩ := (T19.row 0 rfl).form)
          clear hH
          refine hK.out _ _ ?_ (fun hH => ?_)
          · exact KK.out _ [_] T19
          clear hK K
          refine wpAnyH_ready (rs := [97]) (by kernel_rfl) (by simp) ?_
          refine AllReadyH.cons (by simp only [List.getElem?_toArray, List.getElem?_cons_succ, List.getElem?_cons_zero]; rfl) (fun K hK => ?_) AllReadyH.nil
          go_simp
          go_wp2_with (go_at_call 53; refine (L5'.out _ _ T19).mono ?_; rintro e w25 ⟨sv19, rfl, T20⟩; obtain ⟨sa19, sc19, rfl⟩ := (T20.row 0 rfl).form)
          clear hH
          refine hK.out _ _ ?_ (fun hH => ?_)
          · exact KK.out _ [_, _] T20
          clear hK K
          refine wpAnyH_ready (rs := [98]) (by kernel_rfl) (by simp) ?_
          refine AllReadyH.cons (by simp only [List.getElem?_toArray, List.getElem?_cons_succ, List.getElem?_cons_zero]; rfl) (fun K hK => ?_) AllReadyH.nil
          go_simp
          go_wp2_with (go_at_call 12; refine (KN.out _ _ _ _ _ T20).mono ?_; rintro e w26 ⟨rfl, T21⟩)
          clear hH
          refine hK.out _ _ ?_ (fun hH => ?_)
          · exact KK.out _ [] T21
          clear hK K
          refine wpAnyH_take (i := 99) (v := _) (by simp only [List.getElem?_toArray, List.getElem?_cons_succ, List.getElem?_cons_zero]; rfl) (by kernel_rfl) (by kernel_rfl) (by kernel_rfl) (by exact fun _ _ _ h => h) (.inl ⟨by rfl, by (intro w hSw; try obtain ⟨⟨s0, s1, s2⟩, ⟨s3, s4, s5⟩, ⟨s6, s7, s8⟩, ⟨s9, s10, s11⟩, s12, s13, s14⟩ := hSw); (go_simp; try rfl)⟩) hH ?_
          simp only [Act.put, List.setIfInBounds_toArray, List.set_cons_zero, List.set_cons_succ]
          refine wpAnyH_take (i := 100) (v := _) (by simp only [List.getElem?_toArray, List.getElem?_cons_succ, List.getElem?_cons_zero]; rfl) (by kernel_rfl) (by kernel_rfl) (by kernel_rfl) (by exact fun _ _ _ h => h) (.inl ⟨by rfl, by (intro w hSw; try obtain ⟨⟨s0, s1, s2⟩, ⟨s3, s4, s5⟩, ⟨s6, s7, s8⟩, ⟨s9, s10, s11⟩, s12, s13, s14⟩ := hSw); (go_simp; try rfl)⟩) hH ?_
          simp only [Act.put, List.setIfInBounds_toArray, List.set_cons_zero, List.set_cons_succ]
          refine wpAnyH_done (by kernel_rfl) ?_ _
          go_wp2_with fail
          go_meet
          exact ⟨rfl, FB.out _ T21⟩
  case rest =>
    obtain ⟨rfl, S21⟩ := hcut
    replace S21 := Lib.hid S21
    clear T5 L1 L1' L2 L2' L3 L3' L4 L4' L4'' L5 L5' L6 L6' L7 L7' L8 L9 L9' KS KN KK FB
    go_wp2
    go_ret
    exact ⟨rfl, S21.out⟩
end
end Go.Proofs.YtoancpjlkhijiaaGreat
