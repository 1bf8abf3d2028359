/- The law's alike: a heap and the reference's, of the same objects. -/
import Derived.Test.YtjinabglachglaaRefC
namespace Go.Proofs.Ytjinabglachglaa
set_option linter.unusedSimpArgs false
open Go.RowKit
set_option linter.unusedVariables false
section
variable {w W : World} {Rs : List Res} {h r : Nat} {H : HeapM} {N : Nat}
set_option maxRecDepth 100000 in
set_option maxHeartbeats 6400000 in
theorem alike_ok (S : Sep w Rs W) (p q : Nat) (hp : Rs[p]? = some (heapR h H)) (hq : Rs[q]? = some (refR r H)) (F : H.Fit N) (hN : N ≤ 1000000) :
    Calls Try.prog 39 #[.pointer (some ⟨h, 0, none⟩), .pointer (some ⟨r, 0, none⟩)] W fun e W' => e = .returned (.bool true) ∧ Sep w Rs W' := by
  have HQ := Lib.hid (And.intro hp hq)
  have HF := Lib.hid (And.intro F hN)
  have hol : H.objs.length ≤ 1000000 := by have := F.G.len; omega
  have holi : (H.objs.length : Int) ≤ 1000000 := by omega
  have C1 := Lib.hid (S.all p hp F.G (by omega))
  clear S hp hq F hN
  go_enter Try.func39, Try.ntmps39
  go_wp2_with fail
  refine (C1.out).mono ?_
  rintro e w1 ⟨av, rfl, S1, -⟩
  obtain ⟨aa, ac, rfl⟩ := (S1.row 0 rfl).form
  have C2 := Lib.hid (S1.yAll (q + 1) (by simpa using HQ.out.2) HF.out.1.G (by have := HF.out.2; omega))
  have hko : ∀ n ∈ H.objs.map (·.1), okI n := (HeapM.keys_nums HF.out.1.G).ok HF.out.1.G (by have := HF.out.2; omega)
  obtain ⟨KL, hKL⟩ : ∃ x, (H.objs.map (·.1)) = x := ⟨_, rfl⟩
  rw [hKL] at S1 C2 hko ⊢
  have HKO := Lib.hid hko
  clear C1 S1 hko hKL
  go_wp2_with fail
  refine (C2.out).mono ?_
  rintro e w2 ⟨bv, rfl, S2⟩
  obtain ⟨ba, bc, rfl⟩ := (S2.row 0 rfl).form
  have C3 := S2.sameN 1 0 rfl rfl HKO.out HKO.out
  rw [show decide (KL = KL) = true by simp] at C3
  replace C3 := Lib.hid C3
  clear C2 S2
  go_wp2_with fail
  refine (C3.out).mono ?_
  rintro e w3 ⟨rfl, S3⟩
  have SS := Lib.hid (S3.tail.tail)
  clear C3 S3
  go_wp2
  go_loopw [5] (fun iv wr => ∃ k : Nat, k ≤ H.objs.length ∧ iv = .int .i64 k ∧ Sep w Rs wr) (fun iv _ => H.objs.length - (intOf iv).toNat)
  case atStart => exact ⟨0, by omega, rfl, SS.out⟩
  case round =>
    clear SS
    obtain ⟨k, hk, rfl, S4⟩ := hrel
    obtain ⟨F0, h1, _⟩ := S4.get q HQ.out.2
    obtain ⟨rows, sa, sc, R⟩ := h1.cells
    have hrl : rows.length = H.objs.length := by rw [R.objs]; simp
    have c0 := R.head
    rw [hrl] at c0
    by_cases hlt : k < H.objs.length
    · have hlti : (k : Int) < H.objs.length := by omega
      obtain ⟨x, hx⟩ : ∃ x, rows[k]? = some x := ⟨rows[k]'(by omega), by simp⟩
      obtain ⟨g, rfl, e0, hat⟩ := R.row k x hx
      have e1 := cellAt hat.1 0 (v := .int .i64 x.n) rfl
      have hm : x.n ∈ H.objs.map (·.1) := by rw [R.objs, List.map_map]; exact List.mem_map.2 ⟨x, List.mem_of_getElem? hx, rfl⟩
      have hkn : okI x.n := (HeapM.keys_nums HF.out.1.G).ok HF.out.1.G (by have := HF.out.2; omega) _ hm
      obtain ⟨n, hn⟩ : ∃ n, x.n = n := ⟨_, rfl⟩
      rw [hn] at e1 hkn
      have hN4 : N ≤ 4000000 := by have := HF.out.2; omega
      have hq3 : ∀ Q : List Res, (Q ++ Rs)[Q.length + p]? = some (heapR h H) := fun Q => by rw [List.getElem?_append_right (by omega)]; simpa using HQ.out.1
      have hq2 : ∀ Q : List Res, (Q ++ Rs)[Q.length + q]? = some (refR r H) := fun Q => by rw [List.getElem?_append_right (by omega)]; simpa using HQ.out.2
      have K1 := fun W (Q : List Res) (S : Sep w (Q ++ Rs) W) => S.kind (Q.length + p) (hq3 Q) (V.ref n hkn)
      have K1' := fun W (Q : List Res) (S : Sep w (Q ++ Rs) W) => S.yKind (Q.length + q) (hq2 Q) (V.ref n hkn)
      have K2 := fun W (Q : List Res) (S : Sep w (Q ++ Rs) W) => S.num (Q.length + p) (hq3 Q) (V.ref n hkn)
      have K2' := fun W (Q : List Res) (S : Sep w (Q ++ Rs) W) => S.yNum (Q.length + q) (hq2 Q) (V.ref n hkn)
      have K3 := fun W (Q : List Res) (S : Sep w (Q ++ Rs) W) => S.items (Q.length + p) (hq3 Q) HF.out.1.G hN4 (V.ref n hkn)
      have K3' := fun W (Q : List Res) (S : Sep w (Q ++ Rs) W) => S.yItems (Q.length + q) (hq2 Q) HF.out.1.G hN4 (V.ref n hkn)
      have K4 := fun W (Q : List Res) (S : Sep w (Q ++ Rs) W) => S.keys (Q.length + p) (hq3 Q) (V.ref n hkn)
      have K4' := fun W (Q : List Res) (S : Sep w (Q ++ Rs) W) => S.yKeys (Q.length + q) (hq2 Q) HF.out.1.G hN4 (V.ref n hkn)
      have K5 := fun W (Q : List Res) (S : Sep w (Q ++ Rs) W) => S.refs (Q.length + p) (hq3 Q) HF.out.1.G hN4 (V.ref n hkn)
      have K5' := fun W (Q : List Res) (S : Sep w (Q ++ Rs) W) => S.yRefs (Q.length + q) (hq2 Q) HF.out.1.G hN4 (V.ref n hkn)
      have K6 := fun W (Q : List Res) (S : Sep w (Q ++ Rs) W) => S.name (Q.length + p) (hq3 Q) (V.ref n hkn)
      have K6' := fun W (Q : List Res) (S : Sep w (Q ++ Rs) W) => S.yName (Q.length + q) (hq2 Q) (V.ref n hkn)
      have hOk : ∀ m ∈ H.refNs (V.ref n hkn), okI m := fun m hm => by
        rw [HeapM.refNs_ref] at hm
        exact HeapM.live_ok HF.out.1.G hN4 (H.refsOf_live n m hm)
      obtain ⟨kd, hkd⟩ : ∃ x, (H.kind (V.ref n hkn)) = x := ⟨_, rfl⟩
      obtain ⟨nm, hnm⟩ : ∃ x, (H.num (V.ref n hkn)) = x := ⟨_, rfl⟩
      obtain ⟨st, hst⟩ : ∃ x, (H.name (V.ref n hkn)) = x := ⟨_, rfl⟩
      obtain ⟨I, hI⟩ : ∃ x, (H.items (V.ref n hkn)) = x := ⟨_, rfl⟩
      obtain ⟨Y, hY⟩ : ∃ x, ((H.pairs (V.ref n hkn)).map (·.1)) = x := ⟨_, rfl⟩
      obtain ⟨O, hO⟩ : ∃ x, (H.refNs (V.ref n hkn)) = x := ⟨_, rfl⟩
      have hvv : (V.ref n hkn).val = .agg #[.int .i64 4, .int .i64 n, .string ⟨#[]⟩] := rfl
      simp only [hkd, hvv] at K1 K1'
      simp only [hnm, hvv] at K2 K2'
      simp only [hI, hvv] at K3 K3'
      simp only [hY, hvv] at K4 K4'
      simp only [hO, hvv] at K5 K5'
      simp only [hst, hvv] at K6 K6'
      rw [hO] at hOk
      have HOk := Lib.hid hOk
      clear hq2 hq3 hOk hkd hnm hI hY hO hvv hst
      have HLT := Lib.hid hlt
      have I1 := Lib.hid (ref_ok wr n)
      replace S4 := Lib.hid S4
      clear hx hat hm hlt h1 R hrl hn
      go_wp2_with fail
      refine (I1.out).mono ?_
      rintro e w18 ⟨rfl, b18⟩
      have S18 := S4.out.later b18
      obtain ⟨vb, hvb⟩ : ∃ x, (w18.heap.size) = x := ⟨_, rfl⟩
      have S19 := S18.alloc (.cells #[.int .i64 4, .int .i64 n, .string ⟨#[]⟩] 41)
      rw [hvb] at S19
      obtain ⟨B0, hB0⟩ : ∃ B0, B0 = boxR vb (.cells #[.int .i64 4, .int .i64 n, .string ⟨#[]⟩] 41) := ⟨_, rfl⟩
      rw [← hB0] at S19
      have KK : Hid (∀ W (Q : List Res), Sep w (Q ++ B0 :: Rs) W → W.cell? ⟨vb, 0, none⟩ = some (.int .i64 4) ∧ W.cell? ⟨vb, 1, none⟩ = some (.int .i64 n) ∧ W.cell? ⟨vb, 2, none⟩ = some (.string ⟨#[]⟩)) := Lib.hid fun W Q S => by
        have hb := S.box (b := vb) (o := (.cells #[.int .i64 4, .int .i64 n, .string ⟨#[]⟩] 41)) Q.length (by simp [hB0])
        exact ⟨cellAt hb 0 rfl, cellAt hb 1 rfl, cellAt hb 2 rfl⟩
      have L1 := Lib.hid (fun W (S : Sep w (B0 :: Rs) W) => K1 W [B0] S)
      have L1' := Lib.hid (fun W (S : Sep w (B0 :: Rs) W) => K1' W [B0] S)
      have L2 := Lib.hid (fun W (S : Sep w (B0 :: Rs) W) => K2 W [B0] S)
      have L2' := Lib.hid (fun W (S : Sep w (B0 :: Rs) W) => K2' W [B0] S)
      have L3 := Lib.hid (fun W (S : Sep w (B0 :: Rs) W) => K3 W [B0] S)
      have L3' := Lib.hid (fun W X (S : Sep w (X :: B0 :: Rs) W) => K3' W [X, B0] S)
      have L4 := Lib.hid (fun W (S : Sep w (B0 :: Rs) W) => K4 W [B0] S)
      have L4' := Lib.hid (fun W X (S : Sep w (X :: B0 :: Rs) W) => K4' W [X, B0] S)
      have L5 := Lib.hid (fun W (S : Sep w (B0 :: Rs) W) => K5 W [B0] S)
      have L5' := Lib.hid (fun W X (S : Sep w (X :: B0 :: Rs) W) => K5' W [X, B0] S)
      have L6 := Lib.hid (fun W (S : Sep w (B0 :: Rs) W) => K6 W [B0] S)
      have L6' := Lib.hid (fun W (S : Sep w (B0 :: Rs) W) => K6' W [B0] S)
      have KS : Hid (∀ W Z a1 b1 a2 b2, Sep w (valsR (.slice a2 Z.length b2) Z :: valsR (.slice a1 Z.length b1) Z :: B0 :: Rs) W → Calls Try.prog 36 #[.slice a1 Z.length b1, .slice a2 Z.length b2] W fun e w1 => e = .returned (.bool true) ∧ Sep w (B0 :: Rs) w1) := Lib.hid fun W Z a1 b1 a2 b2 S =>
        (same_vals W _ _ Z Z (S.row 1 rfl).sees' (S.row 0 rfl).sees').mono fun e w1 ⟨h1, q, h2⟩ => ⟨by rw [h1]; simp, by rw [h2]; exact S.tail.tail.drewN q⟩
      have KN : Hid (∀ W a1 b1 a2 b2, Sep w (numsR (.slice a2 O.length b2) O :: numsR (.slice a1 O.length b1) O :: B0 :: Rs) W → Calls Try.prog 24 #[.slice a1 O.length b1, .slice a2 O.length b2] W fun e w1 => e = .returned (.bool true) ∧ Sep w (B0 :: Rs) w1) := Lib.hid fun W a1 b1 a2 b2 S =>
        (S.sameN 1 0 rfl rfl HOk.out HOk.out).mono fun e w1 ⟨h1, h2⟩ => ⟨by rw [h1]; simp, h2.tail.tail⟩
      have S20 := Lib.hid S19
      clear I1 S18 S19 S4 b18 hB0 K1 K1' K2 K2' K3 K3' K4 K4' K5 K5' K6 K6' c0 e0 e1
      go_upto_region 7 with fail
      obtain ⟨wb, hwb⟩ : ∃ wb, w18.alloc (.cells #[.int .i64 4, .int .i64 n, .string ⟨#[]⟩] 41) = wb := ⟨_, rfl⟩
      rw [hwb] at S20 ⊢
      clear hwb hvb
      go_cut [91] (fun s91 wx => s91 = .bool false ∧ Sep w Rs wx)
      case first =>
        have T0 := S20.out
        clear S20
        go_region_held3 (fun W => W.cell? ⟨vb, 0, none⟩ = some (.int .i64 4) ∧ W.cell? ⟨vb, 1, none⟩ = some (.int .i64 n) ∧ W.cell? ⟨vb, 2, none⟩ = some (.string ⟨#[]⟩))
          (first | exact KK.out _ [] (by assumption) | exact KK.out _ [_] (by assumption) | exact KK.out _ [_, _] (by assumption) | exact KK.out _ [] (Sep.drew (by assumption)))
          (first
            | (go_at_call_of 19 (Value.pointer (some ⟨h, 0, none⟩)); refine (L1.out _ (by first | assumption | exact Sep.drew (by assumption))).mono ?_; rintro e w6 ⟨rfl, T1, -⟩)
            | (go_at_call 65; refine (L1'.out _ (by first | assumption | exact Sep.drew (by assumption))).mono ?_; rintro e w6 ⟨rfl, T1⟩)
            | (go_at_call_of 35 (Value.pointer (some ⟨h, 0, none⟩)); refine (L2.out _ (by first | assumption | exact Sep.drew (by assumption))).mono ?_; rintro e w6 ⟨rfl, T1, -⟩)
            | (go_at_call 66; refine (L2'.out _ (by first | assumption | exact Sep.drew (by assumption))).mono ?_; rintro e w6 ⟨rfl, T1⟩)
            | (go_at_call_of 67 (Value.pointer (some ⟨h, 0, none⟩)); refine (L6.out _ (by first | assumption | exact Sep.drew (by assumption))).mono ?_; rintro e w6 ⟨rfl, T1, -⟩)
            | (go_at_call 68; refine (L6'.out _ (by first | assumption | exact Sep.drew (by assumption))).mono ?_; rintro e w6 ⟨rfl, T1⟩)
            | (go_at_call 69; refine (L3'.out _ _ (by assumption)).mono ?_; rintro e w6 ⟨sv, rfl, T1⟩; obtain ⟨sa, sc, rfl⟩ := (T1.row 0 rfl).form)
            | (go_at_call_of 37 (Value.pointer (some ⟨h, 0, none⟩)); refine (L3.out _ (by first | assumption | exact Sep.drew (by assumption))).mono ?_; rintro e w6 ⟨sv, rfl, T1, -⟩; obtain ⟨sa, sc, rfl⟩ := (T1.row 0 rfl).form)
            | (go_at_call 71; refine (L4'.out _ _ (by assumption)).mono ?_; rintro e w6 ⟨sv, rfl, T1⟩; obtain ⟨sa, sc, rfl⟩ := (T1.row 0 rfl).form)
            | (go_at_call_of 38 (Value.pointer (some ⟨h, 0, none⟩)); refine (L4.out _ (by first | assumption | exact Sep.drew (by assumption))).mono ?_; rintro e w6 ⟨sv, rfl, T1, -⟩; obtain ⟨sa, sc, rfl⟩ := (T1.row 0 rfl).form)
            | (go_at_call 70; refine (L5'.out _ _ (by assumption)).mono ?_; rintro e w6 ⟨sv, rfl, T1⟩; obtain ⟨sa, sc, rfl⟩ := (T1.row 0 rfl).form)
            | (go_at_call_of 22 (Value.pointer (some ⟨h, 0, none⟩)); refine (L5.out _ (by first | assumption | exact Sep.drew (by assumption))).mono ?_; rintro e w6 ⟨sv, rfl, T1, -⟩; obtain ⟨sa, sc, rfl⟩ := (T1.row 0 rfl).form)
            | (go_at_call 24; refine (KN.out _ _ _ _ _ (by assumption)).mono ?_; rintro e w6 ⟨rfl, T1⟩)
            | (go_at_call 36; refine (KS.out _ _ _ _ _ _ (by assumption)).mono ?_; rintro e w6 ⟨rfl, T1⟩))
        all_goals (go_wp2_with fail; go_meet; exact ⟨rfl, Sep.tail (by assumption)⟩)
      case rest =>
        obtain ⟨rfl, S21⟩ := hcut
        replace S21 := Lib.hid S21
        clear S20 L1 L1' L2 L2' L3 L3' L4 L4' L5 L5' L6 L6' KS KN KK
        go_wp2
        exact ⟨⟨k + 1, by have := HLT.out; omega, by go_num, S21.out⟩, by have := HLT.out; simp [intOf]; omega⟩
    · have hlti : ¬ (k : Int) < H.objs.length := by omega
      have S5 := Lib.hid S4
      clear S4 R h1 hrl hlt
      go_wp2
      go_ret
      exact ⟨rfl, S5.out⟩
end
end Go.Proofs.Ytjinabglachglaa
