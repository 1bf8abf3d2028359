/- The law's reached. -/
import Derived.Test.YtoancpjlkhijiaaIn
import Derived.Test.YtoancpjlkhijiaaSep
import Derived.Test.YtoancpjlkhijiaaMade
import Derived.Deep.RegionHeld3
namespace Go.Proofs.Ytoancpjlkhijiaa
set_option linter.unusedSimpArgs false
open Go.RowKit
set_option linter.unusedVariables false
section
variable {w W : World} {h : Nat} {H : HeapM} {Rs : List Res} {N : Nat}
set_option maxRecDepth 100000 in
set_option maxHeartbeats 1600000 in
theorem reached_ok (S : Sep w Rs W) (i : Nat) (hi : Rs[i]? = some (heapR h H)) (G : H.Good N) (hN : N ≤ 4000000) (hk : H.Kinds) (sv : Value) (E : List V) (hs : SeesV w sv E) (hE : E.length ≤ 60) :
    Calls Try.prog 20 #[.pointer (some ⟨h, 0, none⟩), sv] W fun e W' => ∃ rv k, e = .returned rv ∧ (H.reachK E k).length = k ∧ Sep w (numsR rv (H.reachK E k) :: Rs) W' := by
  have HS := Lib.hid hs
  obtain ⟨a, ac, rfl, a1, a2, a3⟩ := hs
  have hE' : (E.length : Int) ≤ 60 := by omega
  have S0 := Lib.hid (S.addRow (belowAlloc W (.cells #[] 2)) (e := 2) (m := 1) (f := intCell) (v := .slice (some ⟨W.heap.size, 0, none⟩) 0 0) (l := []) (World.ownsRow_made W #[] 0 (Nat.zero_le _) (Nat.zero_le _) rfl) (by simp [Value.ownBlock]))
  have HG := Lib.hid (And.intro hi (And.intro G (And.intro hN hk)))
  clear a1 a2 a3 S hi G hN hk hE
  go_enter Try.func20, Try.ntmps20
  go_wp2
  go_loopw [5, 6] (fun out i wr => ∃ k : Nat, k ≤ E.length ∧ i = .int .i64 k ∧ Sep w (numsR out (H.seed (E.take k)) :: Rs) wr) (fun _ i _ => E.length - (intOf i).toNat)
  case atStart => exact ⟨0, by omega, rfl, S0.out⟩
  case round =>
    clear S0
    obtain ⟨k, hk, rfl, S1⟩ := hrel
    obtain ⟨oa, oc, rfl⟩ := (S1.row 0 rfl).form
    by_cases hlt : k < E.length
    · obtain ⟨x, hx⟩ : ∃ x, E[k]? = some x := ⟨E[k], by simp [hlt]⟩
      obtain ⟨g, o, rfl, hc⟩ : ∃ g o, a = some ⟨g, o, none⟩ ∧ ∀ i v, E[i]? = some v → w.cell? ⟨g, o + i * 3, none⟩ = some (.int .i64 v.kind) ∧ w.cell? ⟨g, o + i * 3 + 1, none⟩ = some (.int .i64 v.n) ∧ w.cell? ⟨g, o + i * 3 + 2, none⟩ = some (.string v.s) := by
        obtain ⟨a', c', he, _, _, h3⟩ := HS.out
        cases he
        rcases h3 with h | h
        · subst h; simp at hlt
        · exact h
      obtain ⟨c0, c1, c2⟩ := hc k x hx
      have d0 := cellBelow c0 S1.below
      have d1 := cellBelow c1 S1.below
      have d2 := cellBelow c2 S1.below
      have hil : (k : Int) < E.length := by omega
      have hseed := HeapM.seed_snoc H (E.take k) x
      rw [show E.take k ++ [x] = E.take (k + 1) by rw [List.take_add_one, hx]; rfl] at hseed
      have hnum := HeapM.seed_nums H E k
      have hll := hnum.len
      have hGl := HG.out.2.1.len
      have hoN := HG.out.2.2.1
      obtain ⟨kd, hkd⟩ : ∃ kd, H.kind x = kd := ⟨_, rfl⟩
      have K := S1.kind (i + 1) (by simpa using HG.out.1) x
      rw [hkd] at K
      replace K := Lib.hid K
      have hz := HG.out.2.2.2.zero x
      rw [hkd] at hz
      generalize H.seed (E.take k) = L at *
      have HX := Lib.hid (And.intro hseed (And.intro hlt (show L.length + 1 ≤ 17592186044416 by omega)))
      have HB := Lib.hid (And.intro c0 (And.intro c1 c2))
      clear hx hc c0 c1 c2 hseed hnum hll hGl hoN S1 hlt
      by_cases hs : (H.of x).isSome = true
      · have hkz : (kd != 0) = true := by
          rw [bne_iff_ne]; intro e; have := hz.1 e; rw [hs] at this; cases this
        have HSM := Lib.hid hs
        clear hs hz hkd
        simp only [V.val] at K
        go_wp2_with fail
        refine K.out.mono ?_
        rintro e w1 ⟨rfl, S2, hb1⟩
        have e0 := cellBelow HB.out.1 S2.below
        have e1 := cellBelow HB.out.2.1 S2.below
        have I := Lib.hid (in_ok w1 _ L x.n (SeesN.of_slIs (S2.row 0 rfl)))
        replace S2 := Lib.hid S2
        clear d0 d1 d2 hb1 K
        go_wp2_with fail
        refine I.out.mono ?_
        rintro e w2 ⟨rfl, q, rfl⟩
        have f1 := (World.cell?_drewN w1 q _).trans e1
        have S3 := Lib.hid (S2.out.drewN q)
        obtain ⟨w2, hw2⟩ : ∃ w2, w1.drewN q = w2 := ⟨_, rfl⟩
        rw [hw2] at f1 S3 ⊢
        clear hw2 e0 e1 S2 I
        by_cases hm : x.n ∈ L
        · have hm' : decide (x.n ∈ L) = true := by simpa using hm
          have HM := Lib.hid hm
          rw [hm']
          clear hm hm'
          go_wp2
          refine ⟨⟨k + 1, by have := HX.out.2.1; omega, by go_num, ?_⟩, by have := HX.out.2.1; simp [intOf]; omega⟩
          rw [HX.out.1, if_neg (fun h => h.2 HM.out)]; exact S3.out
        · have hm' : decide (x.n ∈ L) = false := by simpa using hm
          have HM := Lib.hid hm
          rw [hm']
          clear hm hm'
          go_wp2_with (at_builtin; refine wpList_push_sep rfl _ _ rfl (S3.out.later (belowAlloc _ _)) 0 rfl rfl _ _ rfl (cell_of_row _ _ _ _ _ _ (heapAllocNew _ _)) HX.out.2.2 ?_)
          intro va vc w3 S4
          replace S4 := Lib.hid S4
          go_wp2
          refine ⟨⟨k + 1, by have := HX.out.2.1; omega, by go_num, ?_⟩, by have := HX.out.2.1; simp [intOf]; omega⟩
          rw [HX.out.1, if_pos ⟨HSM.out, HM.out⟩]; exact S4.out
      · have hkz : (kd != 0) = false := by
          have := hz.2 (by simpa using hs); simp [this]
        have HSM := Lib.hid hs
        clear hs hz hkd
        simp only [V.val] at K
        go_wp2_with fail
        refine K.out.mono ?_
        rintro e w1 ⟨rfl, S2, hb1⟩
        replace S2 := Lib.hid S2
        clear d0 d1 d2 hb1 K
        go_wp2
        refine ⟨⟨k + 1, by have := HX.out.2.1; omega, by go_num, ?_⟩, by have := HX.out.2.1; simp [intOf]; omega⟩
        rw [HX.out.1, if_neg (fun h => HSM.out h.1)]; exact S2.out
    · obtain rfl : k = E.length := by omega
      have he : H.seed (E.take E.length) = H.reachK E 0 := by rw [List.take_length]; rfl
      rw [he] at S1 ⊢
      replace S1 := Lib.hid S1
      clear hlt he hk
      go_wp2
      go_loopw [5, 7] (fun out i wr => ∃ k : Nat, k ≤ (H.reachK E k).length ∧ i = .int .i64 k ∧ Sep w (numsR out (H.reachK E k) :: Rs) wr) (fun _ i _ => H.objs.length - (intOf i).toNat)
      case atStart => exact ⟨0, by omega, rfl, S1.out⟩
      case round =>
        clear S1
        obtain ⟨k, hk, rfl, S1⟩ := hrel
        obtain ⟨oa, oc, rfl⟩ := (S1.row 0 rfl).form
        have hnum := HeapM.reachK_nums H E k
        have hll := hnum.len
        have hGl := HG.out.2.1.len
        have hoN := HG.out.2.2.1
        by_cases hlt : k < (H.reachK E k).length
        · obtain ⟨n, hn⟩ : ∃ n, (H.reachK E k)[k]? = some n := ⟨(H.reachK E k)[k], by simp [hlt]⟩
          have hnext : H.reachK E (k + 1) = addNew (H.reachK E k) (H.refsOf n) := by
            conv => lhs; unfold HeapM.reachK
            rw [hn]
          have hkn := hnum.ok HG.out.2.1 hoN n (List.mem_of_getElem? hn)
          obtain ⟨g, rfl⟩ : ∃ g, oa = some ⟨g, 0, none⟩ := by
            rcases (S1.row 0 rfl).shape with ⟨h1, h2⟩ | ⟨g, cap, h1, _⟩
            · rw [h2] at hlt; simp at hlt
            · exact ⟨g, (Value.slice.inj h1).1⟩
          have c0 := (S1.row 0 rfl).cell (f := intCell) (m := 1) (fun _ => rfl) rfl hn (j := 0) (u := .int .i64 n) rfl
          rw [Nat.mul_one, Nat.add_zero] at c0
          have hrl := HG.out.2.1.refs_len n
          have hil : (k : Int) < (H.reachK E k).length := by omega
          have hll2 : ((H.reachK E k).length : Int) ≤ 4000000 := by omega
          have hadd : ∀ m, (addNew (H.reachK E k) ((H.refsOf n).take m)).length ≤ 4000000 := fun m => by
            have := (addNew_nums (r := (H.refsOf n).take m) hnum (fun x hx => H.refsOf_live n x (List.mem_of_mem_take hx))).len; omega
          have HX := Lib.hid (And.intro hnext (And.intro hadd (And.intro hrl (And.intro hlt (show k < H.objs.length by omega)))))
          obtain ⟨nx, hnx⟩ : ∃ nx, nx = H.reachK E (k + 1) := ⟨_, rfl⟩
          rw [← hnx] at HX
          have HNX := Lib.hid hnx
          generalize H.reachK E k = L at *
          clear hn hnext hadd hrl hnum hll hGl hoN hnx hlt
          replace S1 := Lib.hid S1
          go_wp2_with fail
          refine (ref_ok wr n).mono ?_
          rintro e w1 ⟨rfl, hb1⟩
          have R := (S1.out.later hb1).refs (i + 1) (by simpa using HG.out.1) HG.out.2.1 HG.out.2.2.1 (V.ref n hkn)
          rw [HeapM.refNs_ref] at R
          replace R := Lib.hid R
          simp only [V.val, V.ref] at R
          clear hb1 c0
          go_wp2_with fail
          refine R.out.mono ?_
          rintro e w2 ⟨sv, rfl, S2, hb2⟩
          obtain ⟨ra, rc, rfl⟩ := (S2.row 0 rfl).form
          replace S2 := Lib.hid S2
          clear hb2 R
          have hrl : ((H.refsOf n).length : Int) ≤ 4000000 := by have := HX.out.2.2.1; have := HG.out.2.2.1; omega
          generalize H.refsOf n = r at *
          go_wp2
          obtain ⟨wo, hwo⟩ : ∃ wo : World, wo = w2 := ⟨_, rfl⟩
          subst hwo
          go_loopw [5, 9] (fun out j wi => ∃ m : Nat, m ≤ r.length ∧ j = .int .i64 m ∧ Sep w (numsR (.slice ra r.length rc) r :: numsR out (addNew L (r.take m)) :: Rs) wi) (fun _ j _ => r.length - (intOf j).toNat)
          case atStart => exact ⟨0, by omega, rfl, S2.out⟩
          case round =>
            clear S2
            obtain ⟨m, hm, rfl, S2⟩ := hrel
            obtain ⟨pa, pc, rfl⟩ := (S2.row 1 rfl).form
            by_cases hlt : m < r.length
            · obtain ⟨y, hy⟩ : ∃ y, r[m]? = some y := ⟨r[m], by simp [hlt]⟩
              obtain ⟨g2, rfl⟩ : ∃ g, ra = some ⟨g, 0, none⟩ := by
                rcases (S2.row 0 rfl).shape with ⟨h1, h2⟩ | ⟨g, cap, h1, _⟩
                · rw [h2] at hlt; simp at hlt
                · exact ⟨g, (Value.slice.inj h1).1⟩
              have c0 := (S2.row 0 rfl).cell (f := intCell) (m := 1) (fun _ => rfl) rfl hy (j := 0) (u := .int .i64 y) rfl
              rw [Nat.mul_one, Nat.add_zero] at c0
              have hsn := addNew_snoc L (r.take m) y
              rw [show r.take m ++ [y] = r.take (m + 1) by rw [List.take_add_one, hy]; rfl] at hsn
              have hal := HX.out.2.1 m
              have hil2 : (m : Int) < r.length := by omega
              generalize addNew L (r.take m) = T at *
              have I := Lib.hid (in_ok wr _ T y (SeesN.of_slIs (S2.row 1 rfl)))
              have HY := Lib.hid (And.intro hsn (And.intro hlt (show T.length + 1 ≤ 17592186044416 by omega)))
              replace S2 := Lib.hid S2
              clear hy hsn hal hlt
              go_wp2_with fail
              refine I.out.mono ?_
              rintro e w3 ⟨rfl, q, rfl⟩
              have f1 := (World.cell?_drewN wr q _).trans c0
              have S3 := Lib.hid (S2.out.drewN q)
              obtain ⟨w3, hw3⟩ : ∃ w3, wr.drewN q = w3 := ⟨_, rfl⟩
              rw [hw3] at f1 S3 ⊢
              clear hw3 c0 S2 I
              by_cases hmem : y ∈ T
              · have hm' : decide (y ∈ T) = true := by simpa using hmem
                have HM := Lib.hid hmem
                rw [hm']
                clear hmem hm'
                go_wp2
                refine ⟨⟨m + 1, by have := HY.out.2.1; omega, by go_num, ?_⟩, by have := HY.out.2.1; simp [intOf]; omega⟩
                rw [HY.out.1, if_pos HM.out]; exact S3.out
              · have hm' : decide (y ∈ T) = false := by simpa using hmem
                have HM := Lib.hid hmem
                rw [hm']
                clear hmem hm'
                go_wp2_with (at_builtin; refine wpList_push_sep rfl _ _ rfl (S3.out.later (belowAlloc _ _)) 1 rfl rfl _ _ rfl (cell_of_row _ _ _ _ _ _ (heapAllocNew _ _)) HY.out.2.2 ?_)
                intro va vc w4 S4
                replace S4 := Lib.hid S4
                go_wp2
                refine ⟨⟨m + 1, by have := HY.out.2.1; omega, by go_num, ?_⟩, by have := HY.out.2.1; simp [intOf]; omega⟩
                rw [HY.out.1, if_neg HM.out]; exact S4.out
            · obtain rfl : m = r.length := by omega
              rw [List.take_length] at S2 ⊢
              replace S2 := Lib.hid S2
              clear hlt
              go_wp2
              refine ⟨⟨k + 1, ?_, by go_num, ?_⟩, by have := HX.out.2.2.2.2; simp [intOf]; omega⟩
              · have h1 := addNew_len L r
                have h2 := HX.out.2.2.2.1
                rw [← HNX.out, HX.out.1]; omega
              · rw [← HNX.out, HX.out.1]; exact S2.out.tail
        · obtain he : (H.reachK E k).length = k := by omega
          replace S1 := Lib.hid S1
          have HE := Lib.hid he
          clear hnum hll hGl hoN
          rw [he] at hlt ⊢
          go_wp2
          go_ret
          refine ⟨_, k, rfl, HE.out, ?_⟩
          have := S1.out
          rw [HE.out] at this; exact this
end
end Go.Proofs.Ytoancpjlkhijiaa
