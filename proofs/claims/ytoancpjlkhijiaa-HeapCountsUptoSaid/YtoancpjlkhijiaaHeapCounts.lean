/-
  HeapCounts: for any calls of bulk at most 1048576 the law returns true: all counts, together, are as many as all that is held. Condition: the bulk (the second form).
-/
import Derived.Test.YtoancpjlkhijiaaCountsM
namespace Go.Proofs.Ytoancpjlkhijiaa.heapCounts
set_option linter.unusedSimpArgs false
open Go.ChangeShapes Go.WideShapes Go.ChangeAt Go.RowKit
set_option linter.unusedVariables false
set_option maxRecDepth 100000 in
set_option maxHeartbeats 1600000 in
theorem big (w : World) (s : Value) (l : List OpM) (hs : SeesO w s l) (hN : opsW l ≤ 3000000) (hb : bigM l = true) :
    Calls Try.prog 6 #[s] w (LawTrue w) := by
  have M := Lib.hid (lawMade_any w s l hs hN)
  have HS := Lib.hid hs
  obtain ⟨a, ac, rfl, -, -, -, -⟩ := hs
  have HB := Lib.hid hb
  clear hb hN
  go_enter Try.func6, Try.ntmps6
  go_wp2_with fail
  refine M.out.mono ?_
  rintro e w1 ⟨h, rfl, A1⟩
  have B1 := Lib.hid A1.below
  have C := big_ok w1 _ l (seesO_below HS.out B1.out)
  rw [HB.out] at C
  have C' := Lib.hid C
  clear A1 C
  go_wp2_with fail
  refine C'.out.mono ?_
  rintro e w2 ⟨rfl, q, rfl⟩
  have B2 := Lib.hid (Below.drewN B1.out q)
  obtain ⟨w2, hw2⟩ : ∃ w2, w1.drewN q = w2 := ⟨_, rfl⟩
  rw [hw2] at B2 ⊢
  clear hw2
  have C := big_ok w2 _ l (seesO_below HS.out B2.out)
  rw [HB.out] at C
  have C2 := Lib.hid C
  clear C C'
  go_wp2_with fail
  refine C2.out.mono ?_
  rintro e w3 ⟨rfl, q, rfl⟩
  have B3 := Lib.hid (Below.drewN B2.out q)
  obtain ⟨w3, hw3⟩ : ∃ w3, w2.drewN q = w3 := ⟨_, rfl⟩
  rw [hw3] at B3 ⊢
  clear hw3 C2
  go_wp2
  go_ret
  exact ⟨rfl, B3.out⟩
set_option maxRecDepth 100000 in
set_option maxHeartbeats 3200000 in
theorem small (w : World) (s : Value) (l : List OpM) (hs : SeesO w s l) (hN : opsW l ≤ 3000000) (hb : bigM l = false) :
    Calls Try.prog 6 #[s] w (LawTrue w) := by
  have M := Lib.hid (lawMade_any w s l hs hN)
  have HS := Lib.hid hs
  have HG := Lib.hid (And.intro ((madeM_goodW l).more hN) (madeM_kinds l))
  obtain ⟨a, ac, rfl, -, -, -, -⟩ := hs
  have HB := Lib.hid hb
  clear hb hN
  go_enter Try.func6, Try.ntmps6
  go_wp2_with fail
  refine M.out.mono ?_
  rintro e w1 ⟨h, rfl, A1⟩
  have S1 := Lib.hid (sep_of A1)
  generalize madeM l = H at *
  have C := big_ok w1 _ l (seesO_below HS.out S1.out.below)
  rw [HB.out] at C
  have C' := Lib.hid C
  clear A1 C M
  go_wp2_with fail
  refine C'.out.mono ?_
  rintro e w2 ⟨rfl, q, rfl⟩
  have S2 := Lib.hid (S1.out.drewN q)
  obtain ⟨w2, hw2⟩ : ∃ w2, w1.drewN q = w2 := ⟨_, rfl⟩
  rw [hw2] at S2 ⊢
  clear hw2 C' S1
  go_wp2_with fail
  refine (S2.out.all 0 rfl HG.out.1 (by omega)).mono ?_
  rintro e w3 ⟨rv, rfl, S3, hb3⟩
  have hlen : (H.objs.map (·.1)).length ≤ 3000000 := by have := HG.out.1.len; simpa using this
  have hln : (H.objs.map (·.1)).length = H.objs.length := by simp
  have hnum := HeapM.keys_nums HG.out.1
  have hok := hnum.ok HG.out.1 (by omega)
  have heq := counts_refs HG.out.1
  have hkb := fun k => cntSum_bd (allVals H.objs) ((List.take_sublist k (H.objs.map (·.1))).nodup hnum.1)
  have hwt : (allVals H.objs).length ≤ 3000000 := by have := HG.out.1.wt; unfold HeapM.weight at this; omega
  generalize H.objs.map (·.1) = L at *
  have HL := Lib.hid (And.intro hnum (And.intro hok (And.intro heq (And.intro hkb (And.intro hwt (And.intro hlen hln))))))
  have hlen' : (L.length : Int) ≤ 3000000 := by omega
  obtain ⟨la, lc, rfl⟩ := (S3.row 0 rfl).form
  replace S3 := Lib.hid S3
  clear hnum hok heq hkb hwt hlen hln S2 hb3
  go_wp2
  go_loopw [5, 6, 7] (fun c r i wr => ∃ k : Nat, k ≤ L.length ∧ i = .int .i64 k ∧ c = .int .i64 (cntSum (allVals H.objs) (L.take k)) ∧ r = .int .i64 (refsSum H (L.take k)) ∧ Sep w [numsR (.slice la L.length lc) L, heapR h H] wr) (fun _ _ i _ => L.length - (intOf i).toNat)
  case atStart => exact ⟨0, by omega, rfl, rfl, rfl, S3.out⟩
  case round =>
    clear S3
    obtain ⟨k, hk, rfl, rfl, rfl, S4⟩ := hrel
    have hcb := HL.out.2.2.2.1 k
    have hrb := refsSum_bd HG.out.1 (L.take k)
    have hwt := HL.out.2.2.2.2.1
    have hle : (L.take k).length ≤ 3000000 := by have := HL.out.2.2.2.2.2.1; rw [List.length_take]; omega
    by_cases hlt : k < L.length
    · obtain ⟨n, hn⟩ : ∃ n, L[k]? = some n := ⟨L[k], by simp [hlt]⟩
      have hkn := HL.out.2.1 n (List.mem_of_getElem? hn)
      have hcn := H.count_ref n hkn (HL.out.1.2 n (List.mem_of_getElem? hn))
      have htk : L.take (k + 1) = L.take k ++ [n] := by rw [List.take_add_one, hn]; rfl
      have e1 := cntSum_snoc (allVals H.objs) (L.take k) n
      have e2 := refsSum_snoc H (L.take k) n
      rw [← htk] at e1 e2
      have hrl := HG.out.1.refs_len n
      have hc1 := HG.out.1.cnt n
      obtain ⟨g, rfl⟩ := S4.numAddr 0 rfl hlt
      have c0 := S4.numCell 0 rfl hn
      have b1 : 0 ≤ cntSum (allVals H.objs) (L.take k) := hcb.1
      have b2 : cntSum (allVals H.objs) (L.take k) ≤ 3000000 := by omega
      have b3 : 0 ≤ refsSum H (L.take k) := hrb.1
      have b4 : refsSum H (L.take k) ≤ 9000000000000 := by
        refine Int.le_trans hrb.2 ?_
        have : (L.take k).length * 3000000 ≤ 3000000 * 3000000 := Nat.mul_le_mul_right _ hle
        omega
      have b5 : 0 ≤ cnt (allVals H.objs) n := hc1.1
      have b6 : cnt (allVals H.objs) n ≤ 3000000 := by omega
      have hil : (k : Int) < L.length := by omega
      have HRC := Lib.hid (fun m (hm : m ∈ H.refsOf n) => And.intro (refs_counted hm) (H.refsOf_live n m hm))
      have HE := Lib.hid (And.intro e1 (And.intro e2 hcn))
      generalize cntSum (allVals H.objs) (L.take k) = C at *
      generalize refsSum H (L.take k) = R at *
      have HN0 := Lib.hid hn
      have HLT := Lib.hid hlt
      replace S4 := Lib.hid S4
      clear e1 e2 hcn htk hn hlt hcb hrb hwt hle hc1
      go_wp2_with fail
      refine (ref_ok wr n).mono ?_
      rintro e w4 ⟨rfl, hb1⟩
      have RR := (S4.out.later hb1).refs 1 rfl HG.out.1 (by omega) (V.ref n hkn)
      rw [HeapM.refNs_ref] at RR
      replace RR := Lib.hid RR
      simp only [V.val, V.ref] at RR
      clear hb1 c0 S4
      go_wp2_with fail
      refine RR.out.mono ?_
      rintro e w5 ⟨sv, rfl, S5, hb2⟩
      obtain ⟨ra, rc, rfl⟩ := (S5.row 0 rfl).form
      have c0 := S5.numCell 1 rfl (k := k) (n := n) HN0.out
      generalize H.refsOf n = r at *
      replace S5 := Lib.hid S5
      clear RR hb2
      go_wp2_with fail
      refine (ref_ok w5 n).mono ?_
      rintro e w6 ⟨rfl, hb1⟩
      have CC := (S5.out.later hb1).count 2 rfl HG.out.1 (by omega) (V.ref n hkn)
      rw [HE.out.2.2] at CC
      replace CC := Lib.hid CC
      simp only [V.val, V.ref] at CC
      generalize cnt (allVals H.objs) n = cn at *
      clear hb1 c0 S5
      go_wp2_with fail
      refine CC.out.mono ?_
      rintro e w7 ⟨rfl, S7, hb2⟩
      have b7 : (r.length : Int) ≤ 3000000 := by omega
      replace S7 := Lib.hid S7
      clear CC hb2
      go_wp2
      obtain ⟨wo, hwo⟩ : ∃ wo : World, wo = w7 := ⟨_, rfl⟩
      subst hwo
      go_loopw [9] (fun j wi => ∃ m : Nat, m ≤ r.length ∧ j = .int .i64 m ∧ Sep w [numsR (.slice ra r.length rc) r, numsR (.slice (some ⟨g, 0, none⟩) L.length lc) L, heapR h H] wi) (fun j _ => r.length - (intOf j).toNat)
      case atStart => exact ⟨0, by omega, rfl, S7.out⟩
      case round =>
        clear S7
        obtain ⟨m, hm, rfl, S8⟩ := hrel
        by_cases hlt : m < r.length
        · obtain ⟨y, hy⟩ : ∃ y, r[m]? = some y := ⟨r[m], by simp [hlt]⟩
          obtain ⟨g2, rfl⟩ := S8.numAddr 0 rfl hlt
          have c0 := S8.numCell 0 rfl hy
          have hy2 := HRC.out y (List.mem_of_getElem? hy)
          have hyo : okI y := by
            obtain ⟨o, ho⟩ := Option.isSome_iff_exists.1 hy2.2
            exact HG.out.1.key (by omega) (getL_mem ho)
          have hyc := H.count_ref y hyo hy2.2
          have hyk : H.kind (V.ref y hyo) ≠ 0 := by
            intro e
            have := (HG.out.2.zero _).1 e
            unfold HeapM.of at this
            rw [if_pos (show (V.ref y hyo).kind = 4 from rfl)] at this
            have h3 := hy2.2
            rw [show (V.ref y hyo).n = y from rfl] at this
            rw [this] at h3; cases h3
          have hil2 : (m : Int) < r.length := by omega
          have hy1 := hy2.1
          have KK := fun W (S : Sep w [numsR (.slice (some ⟨g2, 0, none⟩) r.length rc) r, numsR (.slice (some ⟨g, 0, none⟩) L.length lc) L, heapR h H] W) => S.kind 2 rfl (V.ref y hyo)
          have CC := fun W (S : Sep w [numsR (.slice (some ⟨g2, 0, none⟩) r.length rc) r, numsR (.slice (some ⟨g, 0, none⟩) L.length lc) L, heapR h H] W) => S.count 2 rfl HG.out.1 (by omega) (V.ref y hyo)
          rw [hyc] at CC
          have HC0 := Lib.hid (fun W (S : Sep w [numsR (.slice (some ⟨g2, 0, none⟩) r.length rc) r, numsR (.slice (some ⟨g, 0, none⟩) L.length lc) L, heapR h H] W) => S.numCell 0 rfl hy)
          generalize H.kind (V.ref y hyo) = kd at *
          generalize cnt (allVals H.objs) y = cy at *
          have hkd : (kd == 0) = false := by simpa using hyk
          replace KK := Lib.hid KK
          replace CC := Lib.hid CC
          simp only [V.val, V.ref] at KK CC
          have HLT2 := Lib.hid hlt
          replace S8 := Lib.hid S8
          clear hy hy2 hyc hyk hlt
          go_wp2_with fail
          refine (ref_ok _ y).mono ?_
          rintro e w8 ⟨rfl, hb1⟩
          have S9 := Lib.hid (S8.out.later hb1)
          clear hb1 c0 S8
          go_wp2_with fail
          refine (KK.out _ S9.out).mono ?_
          rintro e w9 ⟨rfl, S10, hb2⟩
          have c0 := HC0.out _ S10
          replace S10 := Lib.hid S10
          clear hb2 S9
          go_wp2_with fail
          refine (ref_ok _ y).mono ?_
          rintro e w10 ⟨rfl, hb1⟩
          have S11 := Lib.hid (S10.out.later hb1)
          clear hb1 c0 S10
          go_wp2_with fail
          refine (CC.out _ S11.out).mono ?_
          rintro e w11 ⟨rfl, S12, hb2⟩
          replace S12 := Lib.hid S12
          clear hb2 S11
          go_wp2
          refine ⟨⟨m + 1, by have := HLT2.out; omega, by go_num, S12.out⟩, by have := HLT2.out; simp [intOf]; omega⟩
        · obtain rfl : m = r.length := by omega
          replace S8 := Lib.hid S8
          clear hlt
          go_wp2
          refine ⟨⟨k + 1, by have := HLT.out; omega, by go_num, ?_, ?_, S8.out.tail⟩, by have := HLT.out; simp [intOf]; omega⟩
          · rw [HE.out.1]
          · rw [HE.out.2.1]
    · obtain rfl : k = L.length := by omega
      rw [List.take_length] at hcb hrb ⊢
      have heq := HL.out.2.2.1
      rw [heq]
      generalize refsSum H L = R at *
      have LL := fun W (S : Sep w [numsR (.slice la L.length lc) L, heapR h H] W) => S.live 1 rfl HG.out.1 (by omega) 0
      rw [live_all, ← HL.out.2.2.2.2.2.2] at LL
      replace LL := Lib.hid LL
      replace S4 := Lib.hid S4
      clear hlt hcb hrb hwt hle heq
      go_wp2_with fail
      refine (kept_ok _).mono ?_
      rintro e w4 ⟨rfl, hb1⟩
      have S5 := Lib.hid (S4.out.later hb1)
      clear hb1 S4
      go_wp2_with fail
      refine (LL.out _ S5.out).mono ?_
      rintro e w5 ⟨rfl, S6, hb2⟩
      have B := Lib.hid S6.below
      clear S5 S6 hb2
      go_wp2
      go_ret
      exact ⟨rfl, B.out⟩
set_option maxRecDepth 100000 in
theorem lifted (os : Os) (started : os.Started) (H : Type) (enc : TypeId × Value → H) (F : Stop.Interp) :
    ReturnsInHanded {} Try.checked os 6 .any ((Rows.OpenSpec.upto Rows.heapCountsSpec).pre6 enc Try.prog Try.f6 Rows.heapCountsUptoRow.domain false) (((Rows.OpenSpec.upto Rows.heapCountsSpec).at F).post enc Try.prog Try.f6 false true false false) := by
  refine law_lift_upto (C := Try.checked) own started (by kernel_rfl) Try.func6
    (OpenSpec.witness (enc := enc) (C := Try.checked) (s := Rows.OpenSpec.upto Rows.heapCountsSpec) (k := Rows.uptoSmall) rfl false ⟨#[], #[.slice none 0 0], []⟩ 8 (by kernel_rfl) (by kernel_rfl) (by kernel_rfl)
      (x := ([.nil], [], [])) (by kernel_rfl) rfl (by kernel_rfl))
    (by kernel_rfl) (by kernel_rfl) rfl (fun ds h => by
      match ds, h with
      | [d1], _ => exact ⟨rfl, rfl, rfl⟩) rfl Try.underlying4 ?_
  intro W base args ds ps hval hA hlt hbk hwt hsh
  rw [Try.params6] at hA hval
  obtain ⟨v0, vs0, d0, ds0, p0, q0, hargs, rfl, rfl, h0, r0⟩ := trodAll_cons hA
  obtain ⟨rfl, rfl, rfl⟩ := trodAll_nil r0
  obtain rfl : args = #[v0] := by cases args; simp_all
  obtain ⟨x0, len0, cap0, rfl⟩ := okWide_slice Try.underlying33 (hval 0 33 v0 rfl rfl)
  obtain ⟨fuel0, hf0⟩ := h0
  obtain ⟨l0, s0, b0⟩ := open_ops (v := .slice x0 len0 cap0) hf0
  -- WALK
  simp only [Rows.uptoBulkAll] at hbk
  have hN : opsW l0 ≤ 3000000 := by have h0 : opsW l0 ≤ Rows.uptoBulk d0 := b0; omega
  cases hb : bigM l0 with
  | true => exact big W _ l0 s0 hN hb
  | false => exact small W _ l0 s0 hN hb
theorem proved : Rows.HeapCountsUptoSaid :=
  OpenClaim.holds_of_cond 6 Try.f6 rfl rfl rfl rfl rfl rfl rfl ⟨rfl, rfl, rfl, rfl, rfl⟩ rfl rfl rfl rfl rfl (by kernel_rfl) Try.func6 (by kernel_rfl)
    (of_decide_eq_true (by kernel_rfl)) (by unfold Func.isWrapper; first | (rw [if_pos (by decide +kernel)]; kernel_rfl) | (rw [if_neg (by decide +kernel)]; exact ⟨rfl, rfl⟩))
    (fun os started H enc _ F => lifted os started H enc F)
#print axioms proved
end Go.Proofs.Ytoancpjlkhijiaa.heapCounts
