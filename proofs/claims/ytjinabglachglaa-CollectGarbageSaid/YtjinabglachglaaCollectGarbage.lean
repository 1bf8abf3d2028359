/-
  CollectGarbage: for any graph the law returns true: garbage is held, and by nothing that is reached; what is neither reached nor garbage is held by nothing; to look for it changes nothing. No condition.
-/
import Derived.Test.YtjinabglachglaaLaw13
namespace Go.Proofs.Ytjinabglachglaa.collectGarbage
set_option linter.unusedSimpArgs false
open Go.ChangeShapes Go.WideShapes Go.ChangeAt Go.RowKit
set_option linter.unusedVariables false
theorem filter_at {A : List Int} (p : Int → Bool) {k : Nat} {n : Int} (hn : A[k]? = some n) (hp : p n = true) : (A.filter p)[((A.take k).filter p).length]? = some n := by
  have h1 : A = A.take k ++ n :: A.drop (k + 1) := by
    have hk := (List.getElem?_eq_some_iff.1 hn)
    obtain ⟨h, e⟩ := hk
    rw [← e]; simp
  conv => lhs; arg 1; rw [h1]
  rw [List.filter_append, List.filter_cons_of_pos hp, List.getElem?_append_right (Nat.le_refl _)]
  simp
theorem filter_step {A : List Int} (p : Int → Bool) {k : Nat} {n : Int} (hn : A[k]? = some n) : ((A.take (k + 1)).filter p).length = ((A.take k).filter p).length + (p n).toNat := by
  rw [List.take_add_one, hn, List.filter_append, List.length_append]
  cases h : p n <;> simp [h]
theorem garbage_p (H : HeapM) (E : List V) : ∃ p : Int → Bool, H.garbageM E = (H.objs.map (·.1)).filter p ∧ ∀ n ∈ H.objs.map (·.1), (p n = true ↔ n ∈ H.garbageM E) := by
  have : ∃ p : Int → Bool, H.garbageM E = (H.objs.map (·.1)).filter p := by unfold HeapM.garbageM; exact ⟨_, rfl⟩
  obtain ⟨p, hp⟩ := this
  refine ⟨p, hp, fun n hn => ?_⟩
  rw [hp, List.mem_filter]
  exact ⟨fun h => ⟨hn, h⟩, fun h => h.2⟩
set_option maxRecDepth 100000 in
set_option maxHeartbeats 6400000 in
theorem walk (w : World) (kv ev hv : Value) (g : GraphM) (hg : SeesG w kv ev hv g) :
    Calls Try.prog 5 #[.agg #[kv, ev, hv]] w fun e W' => e = .returned (.bool true) ∧ Below w.heap.size w W' := by
  have HG := Lib.hid hg
  obtain ⟨ka, kc, rfl, -, -, -⟩ := hg.kinds
  obtain ⟨ea, ec, rfl, -, -, -⟩ := hg.edges
  obtain ⟨da, dc, rfl, -, -, -⟩ := hg.held
  obtain ⟨bx, hbx⟩ : ∃ bx, w.heap.size = bx := ⟨_, rfl⟩
  have S0 := (Sep.start (Below.refl w.heap.size w)).alloc (.cells #[.slice ka g.kinds.length kc, .slice ea g.edges.length ec, .slice da g.held.length dc] 28)
  have K := Lib.hid (shown_ok (w.alloc (.cells #[.slice ka g.kinds.length kc, .slice ea g.edges.length ec, .slice da g.held.length dc] 28)))
  rw [hbx] at S0
  replace S0 := Lib.hid S0
  have HBX := Lib.hid hbx
  clear hg
  go_enter Try.func5, Try.ntmps5
  go_wp2_with fail
  refine K.out.mono ?_
  rintro e w1 ⟨rfl, b1⟩
  have S1 := S0.out.later b1
  have c0 := cellAt (S1.box 0 rfl) 0 (v := .slice ka g.kinds.length kc) rfl
  have c1 := cellAt (S1.box 0 rfl) 1 (v := .slice ea g.edges.length ec) rfl
  have c2 := cellAt (S1.box 0 rfl) 2 (v := .slice da g.held.length dc) rfl
  have C := Lib.hid (graph_ok S1 _ _ _ g HG.out)
  clear S0 S1 K b1 hbx
  go_wp2_with fail
  refine C.out.mono ?_
  rintro e w2 ⟨h, y, rfl, S2⟩
  replace S2 := S2.tail
  clear c0 c1 c2 C
  have c0 := cellAt (S2.box 1 rfl) 0 (v := .slice ka g.kinds.length kc) rfl
  have c1 := cellAt (S2.box 1 rfl) 1 (v := .slice ea g.edges.length ec) rfl
  have c2 := cellAt (S2.box 1 rfl) 2 (v := .slice da g.held.length dc) rfl
  have C := Lib.hid (held_ok S2 (.slice ka g.kinds.length kc) (.slice ea g.edges.length ec) _ rfl g.held HG.out.held)
  clear S2
  go_wp2_with fail
  refine C.out.mono ?_
  rintro e w3 ⟨lv, rfl, S3⟩
  clear c0 c1 c2 C
  have hL := held_len g.held
  obtain ⟨L, hLL⟩ : ∃ L, heldM g.held = L := ⟨_, rfl⟩
  rw [hLL] at S3 hL
  have HL := Lib.hid hL
  clear hLL hL
  obtain ⟨la, lc, rfl⟩ := (S3.row 0 rfl).form
  have FT := Lib.hid (madeM_fit g)
  obtain ⟨Hm, hHm⟩ : ∃ Hm, madeM g = Hm := ⟨_, rfl⟩
  rw [hHm] at S3 FT
  clear hHm HG HBX
  obtain ⟨A, hA⟩ : ∃ A, Hm.objs.map (·.1) = A := ⟨_, rfl⟩
  have C4 := S3.all 1 rfl FT.out.G (by omega)
  rw [hA] at C4
  replace C4 := Lib.hid C4
  have HA := Lib.hid hA
  clear hA
  clear S3
  go_wp2_with fail
  refine C4.out.mono ?_
  rintro e w4 ⟨av, rfl, S4, -⟩
  obtain ⟨ava, avc, rfl⟩ := (S4.row 0 rfl).form
  have C5 := Lib.hid (S4.garbageN 2 rfl FT.out (by omega) _ L ((S4.row 1 rfl).sees') (by have := HL.out; omega))
  clear C4 S4
  go_wp2_with fail
  refine C5.out.mono ?_
  rintro e w5 ⟨xv, rfl, S5⟩
  obtain ⟨xva, xvc, rfl⟩ := (S5.row 0 rfl).form
  have C6 := Lib.hid (S5.reachedN 3 rfl FT.out (by omega) _ L ((S5.row 2 rfl).sees') (by have := HL.out; omega))
  clear C5 S5
  go_wp2_with fail
  refine C6.out.mono ?_
  rintro e w6 ⟨rv, rfl, S6⟩
  obtain ⟨rva, rvc, rfl⟩ := (S6.row 0 rfl).form
  have C7 := S6.all 4 rfl FT.out.G (by omega)
  rw [HA.out] at C7
  replace C7 := Lib.hid C7
  clear C6 S6
  go_wp2_with fail
  refine C7.out.mono ?_
  rintro e w7 ⟨av2, rfl, S7, -⟩
  obtain ⟨av2a, av2c, rfl⟩ := (S7.row 0 rfl).form
  have OKA : ∀ n ∈ Hm.objs.map (·.1), okI n := (HeapM.keys_nums FT.out.G).ok FT.out.G (by omega)
  have FA : Hid ((∀ n ∈ Hm.objs.map (·.1), (getL Hm.objs n).isSome = true) ∧ (∀ n, n ∈ Hm.garbageM L → n ∉ Hm.reachedM L ∧ 0 < cnt (allVals Hm.objs) n) ∧ (∀ n ∈ Hm.objs.map (·.1), n ∉ Hm.garbageM L → n ∉ Hm.reachedM L → cnt (allVals Hm.objs) n = 0) ∧ (∀ n ∈ Hm.reachedM L, ∀ m ∈ Hm.refsOf n, m ∉ Hm.garbageM L) ∧ (∀ n ∈ Hm.reachedM L, okI n)) := Lib.hid ⟨fun n hn => (HeapM.live_key FT.out.G).1 hn, fun n hn => by
      have := (HeapM.mem_garbage FT.out.G).1 hn
      exact ⟨fun h => this.2.1 (HeapM.mem_reached.1 h), this.2.2⟩, fun n hn h1 h2 => by
      have h3 := cnt_nonneg (allVals Hm.objs) n
      refine Classical.byContradiction fun h4 => h1 ((HeapM.mem_garbage FT.out.G).2 ⟨(HeapM.live_key FT.out.G).1 hn, fun h => h2 (HeapM.mem_reached.2 h), by omega⟩), fun n hn m hm h1 => by
      exact ((HeapM.mem_garbage FT.out.G).1 h1).2.1 ((HeapM.mem_reached.1 hn).step hm), HeapM.reached_ok FT.out.G (by omega) L⟩
  have PX := Lib.hid (garbage_p Hm L)
  have LN := Lib.hid (And.intro (HeapM.reached_len FT.out.G L) (And.intro (HeapM.garbage_len FT.out.G L) (show (Hm.objs.map (·.1)).length ≤ 100 by rw [List.length_map]; exact FT.out.G.len)))
  obtain ⟨X, hX⟩ : ∃ X, Hm.garbageM L = X := ⟨_, rfl⟩
  obtain ⟨R, hR⟩ : ∃ R, Hm.reachedM L = R := ⟨_, rfl⟩
  rw [hX, hR] at S7
  rw [hX, hR]
  rw [HA.out] at OKA
  rw [HA.out, hX, hR] at FA
  rw [HA.out, hX] at PX
  rw [HA.out, hX, hR] at LN
  clear hX hR HA
  have C8 := S7.sameN 0 3 rfl rfl OKA OKA
  rw [show decide (A = A) = true by simp] at C8
  replace C8 := Lib.hid C8
  have OK := Lib.hid OKA
  clear C7 S7 OKA
  go_wp2_with fail
  refine C8.out.mono ?_
  rintro e w8 ⟨rfl, S8⟩
  replace S8 := S8.tail
  clear C8
  obtain ⟨base, hbase⟩ : ∃ base, base = [numsR (.slice rva R.length rvc) R, numsR (.slice xva X.length xvc) X, numsR (.slice ava A.length avc) A, valsR (.slice la L.length lc) L, heapR h Hm, boxR bx (.cells #[.slice ka g.kinds.length kc, .slice ea g.edges.length ec, .slice da g.held.length dc] 28)] := ⟨_, rfl⟩
  rw [← hbase] at S8
  have HB : Hid (base[0]? = some (numsR (.slice rva R.length rvc) R) ∧ base[1]? = some (numsR (.slice xva X.length xvc) X) ∧ base[2]? = some (numsR (.slice ava A.length avc) A) ∧ base[4]? = some (heapR h Hm)) := Lib.hid (by subst hbase; exact ⟨rfl, rfl, rfl, rfl⟩)
  clear hbase
  have SS := Lib.hid S8
  clear S8
  obtain ⟨p, hp1, hp2⟩ := PX.out
  have HP := Lib.hid (And.intro hp1 hp2)
  have hlA : (A.length : Int) ≤ 100 := by have := LN.out.2.2; omega
  have hlX : (X.length : Int) ≤ 100 := by have := LN.out.2.1; omega
  have hlR : (R.length : Int) ≤ 100 := by have := LN.out.1; omega
  clear PX hp1 hp2
  go_wp2
  go_loopw [10, 11] (fun at_ i wr => ∃ k : Nat, k ≤ A.length ∧ i = .int .i64 k ∧ at_ = .int .i64 (((A.take k).filter p).length : Nat) ∧ Sep w base wr) (fun _ i _ => A.length - (intOf i).toNat)
  case atStart => exact ⟨0, by omega, rfl, rfl, SS.out⟩
  case round =>
    clear SS
    obtain ⟨k, hk, rfl, rfl, S17⟩ := hrel
    by_cases hlt : k < A.length
    · have hlti : (k : Int) < A.length := by omega
      obtain ⟨n, hn⟩ : ∃ n, A[k]? = some n := ⟨A[k], by simp [hlt]⟩
      have hmA := List.mem_of_getElem? hn
      have hstep := filter_step p hn
      obtain ⟨ag, rfl⟩ := S17.numAddr 2 HB.out.2.2.1 hlt
      have cn := S17.numCell 2 HB.out.2.2.1 hn
      obtain ⟨q, hq⟩ : ∃ q, ((A.take k).filter p).length = q := ⟨_, rfl⟩
      rw [hq] at hstep ⊢
      have hkn := OK.out n hmA
      have HN := Lib.hid (And.intro hn (And.intro hmA (And.intro hq (And.intro hstep hlt))))
      have I1 := Lib.hid (S17.inN 1 HB.out.2.1 n)
      clear S17 hn hmA hstep hq
      go_wp2_with fail
      refine I1.out.mono ?_
      rintro e w18 ⟨rfl, S18⟩
      have cn2 := S18.numCell 2 HB.out.2.2.1 HN.out.1
      have I2 := Lib.hid (S18.inN 0 HB.out.1 n)
      clear I1 S18 cn
      go_wp2_with fail
      refine I2.out.mono ?_
      rintro e w19 ⟨rfl, S19⟩
      have cn := S19.numCell 2 HB.out.2.2.1 HN.out.1
      have I3 := Lib.hid (S19.refN n)
      clear I2 S19 cn2
      go_wp2_with fail
      refine I3.out.mono ?_
      rintro e w20 ⟨rfl, S20⟩
      have I4 := S20.count 4 HB.out.2.2.2 FT.out.G (by omega) (V.ref n hkn)
      rw [HeapM.count_ref Hm n hkn (FA.out.1 n HN.out.2.1)] at I4
      replace I4 := Lib.hid I4
      clear I3 S20 cn
      go_wp2_with fail
      refine I4.out.mono ?_
      rintro e w21 ⟨rfl, S21, -⟩
      have cn := S21.numCell 2 HB.out.2.2.1 HN.out.1
      have hpn := HP.out.2 n HN.out.2.1
      obtain ⟨c, hc⟩ : ∃ c, cnt (allVals Hm.objs) n = c := ⟨_, rfl⟩
      by_cases hX : n ∈ X
      · have hR := (FA.out.2.1 n hX).1
        have hc0 : (c == 0) = false := by have := (FA.out.2.1 n hX).2; rw [hc] at this; simp; omega
        rw [show decide (n ∈ X) = true by simpa using hX, show decide (n ∈ R) = false by simpa using hR, hc]
        have hpt := hpn.2 hX
        have hxq : X[q]? = some n := by have := filter_at p HN.out.1 hpt; rw [HN.out.2.2.1, ← HP.out.1] at this; exact this
        have hql := (List.getElem?_eq_some_iff.1 hxq).1
        have hqi : (q : Int) < X.length := by omega
        have hqi2 : decide (X.length ≤ q) = false := by simp; omega
        obtain ⟨xg, rfl⟩ := S21.numAddr 1 HB.out.2.1 hql
        have cx := S21.numCell 1 HB.out.2.1 hxq
        have hq2 : (q : Int) + 1 ≤ 101 := by omega
        have HS := Lib.hid S21
        have HT := Lib.hid hpt
        clear I4 S21 hX hR hpn hpt hxq hql hc
        go_wp2
        go_quiet (fail)
        go_wp2
        exact ⟨⟨k + 1, by omega, by go_num, by rw [HN.out.2.2.2.1, HT.out]; simp, HS.out.drewN nq⟩, by simp [intOf]; omega⟩
      · have hpf : p n = false := by cases h : p n with
          | true => exact absurd (hpn.1 h) hX
          | false => rfl
        have HT := Lib.hid hpf
        by_cases hR : n ∈ R
        · rw [show decide (n ∈ X) = false by simpa using hX, show decide (n ∈ R) = true by simpa using hR, hc]
          have HS := Lib.hid S21
          clear I4 S21 hX hR hpn hpf hc
          go_wp2
          go_quiet (fail)
          go_wp2
          exact ⟨⟨k + 1, by omega, by go_num, by rw [HN.out.2.2.2.1, HT.out]; simp, HS.out.drewN nq⟩, by simp [intOf]; omega⟩
        · rw [show decide (n ∈ X) = false by simpa using hX, show decide (n ∈ R) = false by simpa using hR, hc]
          have hc0 : c = 0 := by rw [← hc]; exact FA.out.2.2.1 n HN.out.2.1 hX hR
          have HS := Lib.hid S21
          clear I4 S21 hX hR hpn hpf hc
          subst hc0
          go_wp2
          go_quiet (fail)
          go_wp2
          exact ⟨⟨k + 1, by omega, by go_num, by rw [HN.out.2.2.2.1, HT.out]; simp, HS.out.drewN nq⟩, by simp [intOf]; omega⟩
    · have hlti : ¬ (k : Int) < A.length := by omega
      have hAt : ((A.take k).filter p).length = X.length := by rw [List.take_of_length_le (by omega), HP.out.1]
      rw [hAt]
      have SS := Lib.hid S17
      clear hlt hAt S17
      go_wp2
      go_loopw [15] (fun i wr => ∃ k : Nat, k ≤ R.length ∧ i = .int .i64 k ∧ Sep w base wr) (fun i _ => R.length - (intOf i).toNat)
      case atStart => exact ⟨0, by omega, rfl, SS.out⟩
      case round =>
        clear SS
        obtain ⟨j, hj, rfl, S17⟩ := hrel
        by_cases hlt : j < R.length
        · have hltj : (j : Int) < R.length := by omega
          obtain ⟨n, hn⟩ : ∃ n, R[j]? = some n := ⟨R[j], by simp [hlt]⟩
          have hm := List.mem_of_getElem? hn
          have hkn := FA.out.2.2.2.2 n hm
          obtain ⟨rg, rfl⟩ := S17.numAddr 0 HB.out.1 hlt
          have cn := S17.numCell 0 HB.out.1 hn
          have I3 := Lib.hid (S17.refN n)
          have HM := Lib.hid (And.intro hm hlt)
          clear S17 hn hm
          go_wp2_with fail
          refine I3.out.mono ?_
          rintro e w20 ⟨rfl, S20⟩
          have I4 := S20.refs 4 HB.out.2.2.2 FT.out.G (by omega) (V.ref n hkn)
          rw [HeapM.refNs_ref] at I4
          have hlo := FT.out.G.refs_len n
          have FO := Lib.hid (FA.out.2.2.2.1 n HM.out.1)
          obtain ⟨O, hO⟩ : ∃ O, Hm.refsOf n = O := ⟨_, rfl⟩
          rw [hO] at I4 hlo FO
          have hlO : (O.length : Int) ≤ 100 := by omega
          replace I4 := Lib.hid I4
          clear I3 S20 cn hO hlo
          go_wp2_with fail
          refine I4.out.mono ?_
          rintro e w21 ⟨ov, rfl, S21, -⟩
          obtain ⟨oa, oc, rfl⟩ := (S21.row 0 rfl).form
          have SS := Lib.hid S21
          clear I4 S21
          go_wp2
          go_loopw [17] (fun i wr => ∃ k : Nat, k ≤ O.length ∧ i = .int .i64 k ∧ Sep w (numsR (.slice oa O.length oc) O :: base) wr) (fun i _ => O.length - (intOf i).toNat)
          case atStart => exact ⟨0, by omega, rfl, SS.out⟩
          case round =>
            clear SS
            obtain ⟨z, hz, rfl, S22⟩ := hrel
            by_cases hlz : z < O.length
            · have hltz : (z : Int) < O.length := by omega
              obtain ⟨m, hm⟩ : ∃ m, O[z]? = some m := ⟨O[z], by simp [hlz]⟩
              obtain ⟨og, rfl⟩ := S22.numAddr 0 rfl hlz
              have cm := S22.numCell 0 rfl hm
              have I1 := S22.inN 2 (by simpa using HB.out.2.1) m
              rw [show decide (m ∈ X) = false by simpa using FO.out m (List.mem_of_getElem? hm)] at I1
              replace I1 := Lib.hid I1
              clear S22 hm
              go_wp2_with fail
              refine I1.out.mono ?_
              rintro e w23 ⟨rfl, S23⟩
              replace S23 := Lib.hid S23
              clear I1 cm
              go_wp2
              exact ⟨⟨z + 1, by omega, by go_num, S23.out⟩, by simp [intOf]; omega⟩
            · have hltz : ¬ (z : Int) < O.length := by omega
              have S23 := Lib.hid S22.tail
              clear S22 hlz
              go_wp2
              exact ⟨⟨j + 1, by have := HM.out.2; omega, by go_num, S23.out⟩, by have := HM.out.2; simp [intOf]; omega⟩
        · have hltj : ¬ (j : Int) < R.length := by omega
          have B := Lib.hid S17.below
          clear S17 hlt
          go_wp2
          exact bodyPost_ret (v := .bool true) (by simp [results, Try.results5, go_sem]) rfl ⟨rfl, B.out⟩
set_option maxRecDepth 100000 in
theorem lifted (os : Os) (started : os.Started) (H : Type) (enc : TypeId × Value → H) :
    ReturnsInHanded {} Try.checked os 5 .any (Rows.collectGarbageSpec.pre6 enc Try.prog Try.f5 Rows.collectGarbageRow.domain false) (Rows.collectGarbageSpec.post enc Try.prog Try.f5 false true false false) := by
  refine law_lift (C := Try.checked) own started (by kernel_rfl) Try.func5
    (ChangeSpec.witness6 (enc := enc) (C := Try.checked) false ⟨#[], #[.agg #[.slice none 0 0, .slice none 0 0, .slice none 0 0]], []⟩ 8 (by kernel_rfl) (by kernel_rfl) (by kernel_rfl) (by kernel_rfl))
    (by kernel_rfl) (by kernel_rfl) rfl (fun ds h => by
      match ds, h with
      | [d1], _ => exact ⟨rfl, rfl, rfl⟩) rfl Try.underlying4 ?_
  intro W base args ds ps hval hA hlt hwt hsh
  rw [Try.params5] at hA hval
  obtain ⟨v0, vs0, d0, ds0, p0, q0, hargs, rfl, rfl, h0, r0⟩ := trodAll_cons hA
  obtain ⟨rfl, rfl, rfl⟩ := trodAll_nil r0
  obtain rfl : args = #[v0] := by cases args; simp_all
  obtain ⟨cs0, rfl, hsz0⟩ := okWide_struct Try.underlying28 (hval 0 28 v0 rfl rfl)
  obtain ⟨fuel0, hf0⟩ := h0
  obtain ⟨kv0, ev0, hv0, gr0, e0, sg0⟩ := open_graph (cs := cs0.toList) hf0
  obtain rfl : cs0 = [kv0, ev0, hv0].toArray := by rw [← e0]
  -- WALK
  exact walk W _ _ _ gr0 sg0
theorem proved : Rows.CollectGarbageSaid :=
  OpenClaim.holds_of_wide 5 Try.f5 rfl rfl rfl rfl rfl rfl rfl ⟨rfl, rfl, rfl, rfl, rfl⟩ rfl rfl rfl rfl rfl (by kernel_rfl) Try.func5 (by kernel_rfl)
    (of_decide_eq_true (by kernel_rfl)) (by unfold Func.isWrapper; first | (rw [if_pos (by decide +kernel)]; kernel_rfl) | (rw [if_neg (by decide +kernel)]; exact ⟨rfl, rfl⟩))
    (fun os started H enc _ => lifted os started H enc)
#print axioms proved
end Go.Proofs.Ytjinabglachglaa.collectGarbage
