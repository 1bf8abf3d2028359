/-
  HeapSweeps: for any calls and values of bulk at most 1048576 the law returns true: behind a sweep each object is held, or was handed in, and a second one frees nothing. Condition: the bulk (the second form).
-/
import Derived.Test.YtoancpjlkhijiaaCountsM
namespace Go.Proofs.Ytoancpjlkhijiaa.heapSweeps
set_option linter.unusedSimpArgs false
open Go.ChangeShapes Go.WideShapes Go.ChangeAt Go.RowKit
set_option linter.unusedVariables false
theorem kept_twice {H : HeapM} {E : List V} {n : Int} (h : Kept H E n) : Kept (H.sweep E) E n := by
  refine ⟨Kept H E, fun m hm => ⟨by rw [sweep_kept hm]; exact kept_live hm, ?_⟩, h⟩
  rcases (kept_sup H E m hm).2 with h1 | ⟨m', o, k1, k2, k3⟩
  · exact .inl h1
  · exact .inr ⟨m', o, k1, by rw [sweep_kept k1]; exact k2, k3⟩
theorem sweep_mem {H : HeapM} {E : List V} {p : Int × ObjM} (h : p ∈ (H.sweep E).objs) : p ∈ H.objs ∧ Kept H E p.1 := by
  have := List.mem_filter.1 h
  exact ⟨this.1, by simpa using this.2⟩
theorem sweep_sweep (H : HeapM) (E : List V) : (H.sweep E).sweep E = H.sweep E := by
  have : ((H.sweep E).sweep E).objs = (H.sweep E).objs := by
    show (H.sweep E).objs.filter _ = _
    exact List.filter_eq_self.2 fun p hp => by simpa using kept_twice (sweep_mem hp).2
  have h2 : ∀ H : HeapM, H = ⟨H.objs, H.last⟩ := fun H => rfl
  rw [h2 ((H.sweep E).sweep E), this]; rfl
def named (E : List V) (n : Int) (m : Nat) : Bool := (E.take m).any (isRef n)
theorem named_succ {E : List V} {n : Int} {m : Nat} {v : V} (h : E[m]? = some v) : named E n (m + 1) = (named E n m || (decide (v.kind = 4) && decide (v.n = n))) := by
  unfold named
  rw [List.take_add_one, h, List.any_append]
  simp [isRef]
/-- What is left is held, or was handed in. -/
theorem left_held {H : HeapM} {E : List V} {n : Int} (h : Kept H E n) (hn : named E n E.length = false) : 1 ≤ cnt (allVals (H.sweep E).objs) n := by
  have hc : ¬ 0 < cnt E n := by
    intro hp
    obtain ⟨v, hv, h1, h2⟩ := cnt_pos.1 hp
    unfold named at hn
    rw [List.take_length, List.any_eq_false] at hn
    exact hn v hv (by simp [isRef, h1, h2])
  rcases (kept_sup H E n h).2 with h1 | ⟨m, o, k1, k2, k3⟩
  · exact absurd h1 hc
  · obtain ⟨x, hx, x1, x2⟩ := cnt_pos.1 k3
    have : 0 < cnt (allVals (H.sweep E).objs) n := cnt_pos.2 ⟨x, List.mem_flatMap.2 ⟨(m, o), getL_mem (by rw [sweep_kept k1]; exact k2), hx⟩, x1, x2⟩
    omega
set_option maxRecDepth 100000 in
set_option maxHeartbeats 1600000 in
theorem big (w : World) (s t : Value) (l : List OpM) (E : List V) (hs : SeesO w s l) (ht : SeesV w t E) (hN : opsW l ≤ 3000000) (hb : bigM l = true) :
    Calls Try.prog 7 #[s, t] w (LawTrue w) := by
  have M := Lib.hid (lawMade_any w s l hs hN)
  have HS := Lib.hid hs
  obtain ⟨a, ac, rfl, -, -, -, -⟩ := hs
  obtain ⟨b, bc, rfl, -, -, -⟩ := ht
  have HB := Lib.hid hb
  clear hb hN
  go_enter Try.func7, Try.ntmps7
  go_wp2_with fail
  refine M.out.mono ?_
  rintro e w1 ⟨h, rfl, A1⟩
  have B1 := Lib.hid A1.below
  have C := big_ok w1 _ l (seesO_below HS.out B1.out)
  rw [HB.out] at C
  have C' := Lib.hid C
  clear A1 C
  go_wp2_with fail
  refine C'.out.mono ?_
  rintro e w2 ⟨rfl, q, rfl⟩
  have B2 := Lib.hid (Below.drewN B1.out q)
  obtain ⟨w2, hw2⟩ : ∃ w2, w1.drewN q = w2 := ⟨_, rfl⟩
  rw [hw2] at B2 ⊢
  clear hw2
  have C := big_ok w2 _ l (seesO_below HS.out B2.out)
  rw [HB.out] at C
  have C2 := Lib.hid C
  clear C C'
  go_wp2_with fail
  refine C2.out.mono ?_
  rintro e w3 ⟨rfl, q, rfl⟩
  have B3 := Lib.hid (Below.drewN B2.out q)
  obtain ⟨w3, hw3⟩ : ∃ w3, w2.drewN q = w3 := ⟨_, rfl⟩
  rw [hw3] at B3 ⊢
  clear hw3 C2
  go_wp2
  go_ret
  exact ⟨rfl, B3.out⟩
set_option maxRecDepth 100000 in
set_option maxHeartbeats 1600000 in
theorem far (w : World) (s t : Value) (l : List OpM) (E : List V) (hs : SeesO w s l) (ht : SeesV w t E) (hN : opsW l ≤ 3000000) (hb : bigM l = false) (hE : 60 < E.length) :
    Calls Try.prog 7 #[s, t] w (LawTrue w) := by
  have M := Lib.hid (lawMade_any w s l hs hN)
  have HS := Lib.hid hs
  obtain ⟨a, ac, rfl, -, -, -, -⟩ := hs
  obtain ⟨b, bc, rfl, -, -, -⟩ := ht
  have HB := Lib.hid hb
  have hE' : (60 : Int) < E.length := by omega
  clear hb hN hE
  go_enter Try.func7, Try.ntmps7
  go_wp2_with fail
  refine M.out.mono ?_
  rintro e w1 ⟨h, rfl, A1⟩
  have B1 := Lib.hid A1.below
  have C := big_ok w1 _ l (seesO_below HS.out B1.out)
  rw [HB.out] at C
  have C' := Lib.hid C
  clear A1 C
  go_wp2_with fail
  refine C'.out.mono ?_
  rintro e w2 ⟨rfl, q, rfl⟩
  have B2 := Lib.hid (Below.drewN B1.out q)
  obtain ⟨w2, hw2⟩ : ∃ w2, w1.drewN q = w2 := ⟨_, rfl⟩
  rw [hw2] at B2 ⊢
  clear hw2
  have C := big_ok w2 _ l (seesO_below HS.out B2.out)
  rw [HB.out] at C
  have C2 := Lib.hid C
  clear C C'
  go_wp2_with fail
  refine C2.out.mono ?_
  rintro e w3 ⟨rfl, q, rfl⟩
  have B3 := Lib.hid (Below.drewN B2.out q)
  obtain ⟨w3, hw3⟩ : ∃ w3, w2.drewN q = w3 := ⟨_, rfl⟩
  rw [hw3] at B3 ⊢
  clear hw3 C2
  go_wp2
  go_ret
  exact ⟨rfl, B3.out⟩
set_option maxRecDepth 100000 in
set_option maxHeartbeats 3200000 in
theorem small (w : World) (s t : Value) (l : List OpM) (E : List V) (hs : SeesO w s l) (ht : SeesV w t E) (hta : Arg w [] t) (hN : opsW l ≤ 3000000) (hb : bigM l = false) (hE : E.length ≤ 60) :
    Calls Try.prog 7 #[s, t] w (LawTrue w) := by
  have M := Lib.hid (lawMade_any w s l hs hN)
  have HS := Lib.hid hs
  have HT := Lib.hid (And.intro ht (And.intro hta hE))
  have HG := Lib.hid (And.intro ((madeM_goodW l).more hN) (madeM_kinds l))
  obtain ⟨a, ac, rfl, -, -, -, -⟩ := hs
  obtain ⟨b, bc, rfl, -, -, hcells⟩ := ht
  have HTC := Lib.hid hcells
  have HB := Lib.hid hb
  have hE' : (E.length : Int) ≤ 60 := by omega
  clear hb hN hE hta hcells
  go_enter Try.func7, Try.ntmps7
  go_wp2_with fail
  refine M.out.mono ?_
  rintro e w1 ⟨h, rfl, A1⟩
  have S1 := Lib.hid (sep_of A1)
  generalize madeM l = H at *
  have C := big_ok w1 _ l (seesO_below HS.out S1.out.below)
  rw [HB.out] at C
  have C' := Lib.hid C
  clear A1 C M
  go_wp2_with fail
  refine C'.out.mono ?_
  rintro e w2 ⟨rfl, q, rfl⟩
  have S2 := Lib.hid (S1.out.drewN q)
  obtain ⟨w2, hw2⟩ : ∃ w2, w1.drewN q = w2 := ⟨_, rfl⟩
  rw [hw2] at S2 ⊢
  clear hw2 C' S1
  go_wp2_with fail
  refine (S2.out.all 0 rfl HG.out.1 (by omega)).mono ?_
  rintro e w3 ⟨rv, rfl, S3, hb3⟩
  have hsub : ∀ n ∈ (H.sweep E).objs.map (·.1), n ∈ H.objs.map (·.1) ∧ Kept H E n := fun n hn => by
    obtain ⟨p, hp, rfl⟩ := List.mem_map.1 hn
    exact ⟨List.mem_map.2 ⟨p, (sweep_mem hp).1, rfl⟩, (sweep_mem hp).2⟩
  have hl0 : (H.objs.map (·.1)).length = H.objs.length := by simp
  have hl1 : ((H.sweep E).objs.map (·.1)).length = (H.sweep E).objs.length := by simp
  have hg0 := HG.out.1.len
  have hg1 := (HG.out.1.sweep E).len
  have hnum := HeapM.keys_nums (HG.out.1.sweep E)
  have hok := hnum.ok (HG.out.1.sweep E) (by omega)
  have HSW := Lib.hid (fun W (S : Sep w [numsR rv (H.objs.map (·.1)), heapR h H] W) => S.sweep 1 rfl HG.out.1 (by omega) _ E (HT.out.1.keep fun p v hp => cellBelow hp S.below) (ArgS.old HT.out.2.1) (by have := HT.out.2.2; omega))
  have HAL := Lib.hid (fun W (S : Sep w [numsR rv (H.objs.map (·.1)), heapR h (H.sweep E)] W) => S.all 1 rfl (HG.out.1.sweep E) (by omega))
  generalize H.objs.map (·.1) = L0 at *
  generalize (H.sweep E).objs.map (·.1) = L at *
  obtain ⟨la0, lc0, rfl⟩ := (S3.row 0 rfl).form
  have HL := Lib.hid (And.intro hsub (And.intro hnum (And.intro hok (And.intro hl0 (And.intro hl1 (And.intro hg0 hg1))))))
  have b0 : (L0.length : Int) ≤ 3000000 := by omega
  have b1 : (L.length : Int) ≤ 3000000 := by omega
  have Z := Lib.hid (HSW.out _ S3)
  clear hsub hnum hok hl0 hl1 hg0 hg1 HSW S3 S2 hb3
  go_wp2_with fail
  refine Z.out.mono ?_
  rintro e w4 ⟨⟨f, rfl, hf⟩, S4⟩
  replace S4 : Sep w [numsR (.slice la0 L0.length lc0) L0, heapR h (H.sweep E)] w4 := S4
  have hf' : (f : Int) = (L0.length : Int) - (L.length : Int) := by have := HL.out.2.2.2.1; have := HL.out.2.2.2.2.1; omega
  have hfb : ((f : Int) != (L0.length : Int) - (L.length : Int)) = false := by simp [hf']
  have A := Lib.hid (HAL.out _ S4)
  clear Z hf hf' HAL S4
  go_wp2_with fail
  refine A.out.mono ?_
  rintro e w5 ⟨nv, rfl, S5, hb5⟩
  obtain ⟨la, lc, rfl⟩ := (S5.row 0 rfl).form
  have Z2 := (S5.sweep 2 rfl (HG.out.1.sweep E) (by omega) _ E (HT.out.1.keep fun p v hp => cellBelow hp S5.below) (ArgS.old HT.out.2.1) (by have := HT.out.2.2; omega))
  rw [sweep_sweep] at Z2
  replace Z2 := Lib.hid Z2
  clear A hb5 S5
  go_wp2_with fail
  refine Z2.out.mono ?_
  rintro e w6 ⟨⟨f2, rfl, hf2⟩, S6⟩
  replace S6 : Sep w [numsR (.slice la L.length lc) L, numsR (.slice la0 L0.length lc0) L0, heapR h (H.sweep E)] w6 := S6
  obtain rfl : f2 = 0 := by omega
  have NN := Lib.hid (numbers_ok w6 _ E (HT.out.1.keep fun p v hp => cellBelow hp S6.below) (by have := HT.out.2.2; omega))
  replace S6 := Lib.hid S6
  clear Z2 hf2
  go_wp2_with fail
  refine NN.out.mono ?_
  rintro e w7 ⟨ev, rfl, R⟩
  have S7 := S6.out.addRow R.2.2 R.1 R.2.1
  obtain ⟨ea, ec, rfl⟩ := R.1.form
  have hel : (E.map (·.n)).length = E.length := by simp
  have HEN := Lib.hid (fun k (v : V) (h : E[k]? = some v) => (show (E.map (·.n))[k]? = some v.n by rw [List.getElem?_map, h]; rfl))
  generalize E.map (·.n) = EN at *
  have HEL := Lib.hid hel
  have hel2 : (EN.length : Int) ≤ 60 := by omega
  replace S7 := Lib.hid S7
  clear hel NN R S6
  go_wp2
  go_loopw [10] (fun i wr => ∃ k : Nat, k ≤ L.length ∧ i = .int .i64 k ∧ Sep w [numsR (.slice ea EN.length ec) EN, numsR (.slice la L.length lc) L, numsR (.slice la0 L0.length lc0) L0, heapR h (H.sweep E)] wr) (fun i _ => L.length - (intOf i).toNat)
  case atStart => exact ⟨0, by omega, rfl, S7.out⟩
  case round =>
    clear S7
    obtain ⟨k, hk, rfl, S8⟩ := hrel
    by_cases hlt : k < L.length
    · obtain ⟨n, hn⟩ : ∃ n, L[k]? = some n := ⟨L[k], by simp [hlt]⟩
      have hmem := List.mem_of_getElem? hn
      have hkn := HL.out.2.2.1 n hmem
      obtain ⟨g, rfl⟩ := S8.numAddr 1 rfl hlt
      have c0 := S8.numCell 1 rfl hn
      have hil : (k : Int) < L.length := by omega
      have I := in_ok wr _ L0 n (SeesN.of_slIs (S8.row 2 rfl))
      rw [show decide (n ∈ L0) = true by simpa using (HL.out.1 n hmem).1] at I
      replace I := Lib.hid I
      have hcn := (H.sweep E).count_ref n hkn (HL.out.2.1.2 n hmem)
      have hlh := left_held (E := E) (HL.out.1 n hmem).2
      have hc1 := (HG.out.1.sweep E).cnt n
      have HCC := fun W (S : Sep w [numsR (.slice ea EN.length ec) EN, numsR (.slice (some ⟨g, 0, none⟩) L.length lc) L, numsR (.slice la0 L0.length lc0) L0, heapR h (H.sweep E)] W) => S.count 3 rfl (HG.out.1.sweep E) (by omega) (V.ref n hkn)
      rw [hcn] at HCC
      replace HCC := Lib.hid HCC
      have HC0 := Lib.hid (fun W (S : Sep w [numsR (.slice ea EN.length ec) EN, numsR (.slice (some ⟨g, 0, none⟩) L.length lc) L, numsR (.slice la0 L0.length lc0) L0, heapR h (H.sweep E)] W) => S.numCell 1 rfl hn)
      generalize cnt (allVals (H.sweep E).objs) n = cn at *
      have HLH := Lib.hid (And.intro hlh hc1)
      have HLT := Lib.hid hlt
      replace S8 := Lib.hid S8
      clear hn hmem hcn hlh hc1 hlt
      go_wp2_with fail
      refine I.out.mono ?_
      rintro e w8 ⟨rfl, q, rfl⟩
      have S9 := Lib.hid (S8.out.drewN q)
      obtain ⟨w8, hw8⟩ : ∃ w8, wr.drewN q = w8 := ⟨_, rfl⟩
      rw [hw8] at S9 ⊢
      clear hw8 c0 S8 I
      go_wp2
      obtain ⟨wo, hwo⟩ : ∃ wo : World, wo = w8 := ⟨_, rfl⟩
      subst hwo
      go_loopw [11, 12] (fun nm j wi => ∃ m : Nat, m ≤ E.length ∧ j = .int .i64 m ∧ nm = .bool (named E n m) ∧ Sep w [numsR (.slice ea EN.length ec) EN, numsR (.slice (some ⟨g, 0, none⟩) L.length lc) L, numsR (.slice la0 L0.length lc0) L0, heapR h (H.sweep E)] wi) (fun _ j _ => E.length - (intOf j).toNat)
      case atStart => exact ⟨0, by omega, rfl, rfl, S9.out⟩
      case round =>
        clear S9
        obtain ⟨m, hm, rfl, rfl, S10⟩ := hrel
        by_cases hlt : m < E.length
        · obtain ⟨x, hx⟩ : ∃ x, E[m]? = some x := ⟨E[m], by simp [hlt]⟩
          obtain ⟨g2, o2, rfl, hc⟩ : ∃ g o, b = some ⟨g, o, none⟩ ∧ ∀ i v, E[i]? = some v → w.cell? ⟨g, o + i * 3, none⟩ = some (.int .i64 v.kind) ∧ w.cell? ⟨g, o + i * 3 + 1, none⟩ = some (.int .i64 v.n) ∧ w.cell? ⟨g, o + i * 3 + 2, none⟩ = some (.string v.s) := by
            rcases HTC.out with h | h
            · subst h; simp at hlt
            · exact h
          have c1 := cellBelow (hc m x hx).1 S10.below
          have hxn := HEN.out m x hx
          obtain ⟨g3, rfl⟩ := S10.numAddr 0 rfl (show m < EN.length by have := HEL.out; omega)
          have c2 := S10.numCell 0 rfl hxn
          have c3 := HC0.out _ S10
          have hns := named_succ (n := n) hx
          have hil2 : (m : Int) < E.length := by omega
          have hil3 : (m : Int) < EN.length := by have := HEL.out; omega
          have HNS := Lib.hid hns
          have HLT2 := Lib.hid hlt
          replace S10 := Lib.hid S10
          clear hx hc hxn hns hlt
          cases hnm : named E n m with
          | true =>
            rw [hnm] at HNS
            clear hnm
            go_wp2
            go_quiet (fail)
            go_wp2
            refine ⟨⟨m + 1, by have := HLT2.out; omega, by go_num, by rw [HNS.out]; rfl, S10.out.drewN _⟩, by have := HLT2.out; simp [intOf]; omega⟩
          | false =>
            rw [hnm] at HNS
            clear hnm
            by_cases hk4 : x.kind = 4
            · have hk4' : (x.kind == 4) = true := by simp [hk4]
              have HK4 := Lib.hid hk4
              clear hk4
              by_cases hxn : x.n = n
              · have hxn' : (x.n == n) = true := by simp [hxn]
                have HXN := Lib.hid hxn
                clear hxn
                go_wp2
                go_quiet (fail)
                go_wp2
                refine ⟨⟨m + 1, by have := HLT2.out; omega, by go_num, by rw [HNS.out, HK4.out, HXN.out]; simp, S10.out.drewN _⟩, by have := HLT2.out; simp [intOf]; omega⟩
              · have hxn' : (x.n == n) = false := by simpa using hxn
                have HXN := Lib.hid hxn
                clear hxn
                go_wp2
                go_quiet (fail)
                go_wp2
                refine ⟨⟨m + 1, by have := HLT2.out; omega, by go_num, by rw [HNS.out]; simp [HXN.out], S10.out.drewN _⟩, by have := HLT2.out; simp [intOf]; omega⟩
            · have hk4' : (x.kind == 4) = false := by simpa using hk4
              have HK4 := Lib.hid hk4
              clear hk4
              go_wp2
              go_quiet (fail)
              go_wp2
              refine ⟨⟨m + 1, by have := HLT2.out; omega, by go_num, by rw [HNS.out]; simp [HK4.out], S10.out.drewN _⟩, by have := HLT2.out; simp [intOf]; omega⟩
        · obtain rfl : m = E.length := by omega
          have c3 := HC0.out _ S10
          simp only [V.val, V.ref] at HCC
          replace S10 := Lib.hid S10
          clear hlt
          go_wp2_with fail
          refine (ref_ok _ n).mono ?_
          rintro e w9 ⟨rfl, hb1⟩
          have S11 := Lib.hid (S10.out.later hb1)
          clear hb1 c3 S10
          go_wp2_with fail
          refine (HCC.out _ S11.out).mono ?_
          rintro e w10 ⟨rfl, S12, hb2⟩
          replace S12 := Lib.hid S12
          clear hb2 S11
          cases hnm : named E n E.length with
          | true =>
            clear hnm
            by_cases hc0 : cn = 0
            · have hc0' : (cn == 0) = true := by simp [hc0]
              clear hc0
              go_wp2
              refine ⟨⟨k + 1, by have := HLT.out; omega, by go_num, S12.out⟩, by have := HLT.out; simp [intOf]; omega⟩
            · have hc0' : (cn == 0) = false := by simpa using hc0
              clear hc0
              go_wp2
              refine ⟨⟨k + 1, by have := HLT.out; omega, by go_num, S12.out⟩, by have := HLT.out; simp [intOf]; omega⟩
          | false =>
            have hc0' : (cn == 0) = false := by have := HLH.out.1 hnm; simp; omega
            clear hnm
            go_wp2
            refine ⟨⟨k + 1, by have := HLT.out; omega, by go_num, S12.out⟩, by have := HLT.out; simp [intOf]; omega⟩
    · obtain rfl : k = L.length := by omega
      replace S8 := Lib.hid S8
      clear hlt
      go_wp2_with fail
      refine (kept_ok _).mono ?_
      rintro e w8 ⟨rfl, hb1⟩
      have B := Lib.hid (S8.out.later hb1).below
      clear hb1 S8
      go_wp2
      go_ret
      exact ⟨rfl, B.out⟩
set_option maxRecDepth 100000 in
theorem lifted (os : Os) (started : os.Started) (H : Type) (enc : TypeId × Value → H) (F : Stop.Interp) :
    ReturnsInHanded {} Try.checked os 7 .any ((Rows.OpenSpec.upto Rows.heapSweepsSpec).pre6 enc Try.prog Try.f7 Rows.heapSweepsUptoRow.domain false) (((Rows.OpenSpec.upto Rows.heapSweepsSpec).at F).post enc Try.prog Try.f7 false true false false) := by
  refine law_lift_upto (C := Try.checked) own started (by kernel_rfl) Try.func7
    (OpenSpec.witness (enc := enc) (C := Try.checked) (s := Rows.OpenSpec.upto Rows.heapSweepsSpec) (k := Rows.uptoSmall) rfl false ⟨#[], #[.slice none 0 0, .slice none 0 0], []⟩ 8 (by kernel_rfl) (by kernel_rfl) (by kernel_rfl)
      (x := ([.nil, .nil], [], [])) (by kernel_rfl) rfl (by kernel_rfl))
    (by kernel_rfl) (by kernel_rfl) rfl (fun ds h => by
      match ds, h with
      | [d1, d2], _ => exact ⟨rfl, rfl, rfl⟩) rfl Try.underlying4 ?_
  intro W base args ds ps hval hA hlt hbk hwt hsh
  rw [Try.params7] at hA hval
  obtain ⟨v0, vs0, d0, ds0, p0, q0, hargs, rfl, rfl, h0, r0⟩ := trodAll_cons hA
  obtain ⟨v1, vs1, d1, ds1, p1, q1, rfl, rfl, rfl, h1, r1⟩ := trodAll_cons r0
  obtain ⟨rfl, rfl, rfl⟩ := trodAll_nil r1
  obtain rfl : args = #[v0, v1] := by cases args; simp_all
  obtain ⟨x0, len0, cap0, rfl⟩ := okWide_slice Try.underlying33 (hval 0 33 v0 rfl rfl)
  obtain ⟨fuel0, hf0⟩ := h0
  obtain ⟨l0, s0, b0⟩ := open_ops (v := .slice x0 len0 cap0) hf0
  obtain ⟨x1, len1, cap1, rfl⟩ := okWide_slice Try.underlying22 (hval 1 22 v1 rfl rfl)
  obtain ⟨fuel1, hf1⟩ := h1
  obtain ⟨l1, s1, g1⟩ := open_vals (v := .slice x1 len1 cap1) hf1
  -- WALK
  simp only [Rows.uptoBulkAll] at hbk
  have hN : opsW l0 ≤ 3000000 := by have h0 : opsW l0 ≤ Rows.uptoBulk d0 := b0; omega
  cases hb : bigM l0 with
  | true => exact big W _ _ l0 l1 s0 s1 hN hb
  | false =>
    by_cases hE : l1.length ≤ 60
    · exact small W _ _ l0 l1 s0 s1 g1 hN hb hE
    · exact far W _ _ l0 l1 s0 s1 hN hb (by omega)
theorem proved : Rows.HeapSweepsUptoSaid :=
  OpenClaim.holds_of_cond 7 Try.f7 rfl rfl rfl rfl rfl rfl rfl ⟨rfl, rfl, rfl, rfl, rfl⟩ rfl rfl rfl rfl rfl (by kernel_rfl) Try.func7 (by kernel_rfl)
    (of_decide_eq_true (by kernel_rfl)) (by unfold Func.isWrapper; first | (rw [if_pos (by decide +kernel)]; kernel_rfl) | (rw [if_neg (by decide +kernel)]; exact ⟨rfl, rfl⟩))
    (fun os started H enc _ F => lifted os started H enc F)
#print axioms proved
end Go.Proofs.Ytoancpjlkhijiaa.heapSweeps
