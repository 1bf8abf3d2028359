/-
  CollectGoes: for any graph the law returns true: objects that are made behind a collection have new numbers, and what was freed is of no object; a collection with all held frees nothing. No condition.
-/
import Derived.Test.YtjinabglachglaaLaw13
import Derived.Deep.RegionHeld3
import Derived.Deep.DeepCutAuto
namespace Go.Proofs.Ytjinabglachglaa.collectGoes
set_option linter.unusedSimpArgs false
open Go.ChangeShapes Go.WideShapes Go.ChangeAt Go.RowKit
set_option linter.unusedVariables false
/-- The value of a number. -/
def numV (n : Int) : V := if h : (Lit.int .i64 n).wf = true then V.ref n h else V.zero
theorem numV_of {n : Int} (h : okI n) : numV n = V.ref n h := dif_pos h
theorem cnt_numV {A : List Int} (h : ∀ n ∈ A, okI n) {n : Int} (hn : n ∈ A) : 0 < cnt (A.map numV) n :=
  cnt_pos.2 ⟨numV n, List.mem_map.2 ⟨n, hn, rfl⟩, by rw [numV_of (h n hn)]; exact ⟨rfl, rfl⟩⟩
theorem all_R {H : HeapM} {N : Nat} (G : H.Good N) (hN : N ≤ 4000000) {n : Int} (hn : (getL H.objs n).isSome = true) : H.R ((H.objs.map (·.1)).map numV) n :=
  .seed hn (cnt_numV ((HeapM.keys_nums G).ok G hN) (HeapM.key_of_live hn))
theorem all_collect {H : HeapM} {N : Nat} (G : H.Good N) (hN : N ≤ 4000000) : H.collect ((H.objs.map (·.1)).map numV) = H := by
  have h1 : (H.collect ((H.objs.map (·.1)).map numV)).objs = H.objs := by
    rw [HeapM.collect_objs G]
    refine List.filter_eq_self.2 fun p hp => ?_
    have := all_R G hN (n := p.1) ((HeapM.keys_nums G).2 _ (List.mem_map.2 ⟨p, hp, rfl⟩))
    simpa using this
  have h2 : ∀ H : HeapM, H = ⟨H.objs, H.last⟩ := fun H => rfl
  rw [h2 (H.collect _), h1, HeapM.collect_last]
theorem all_garbage {H : HeapM} {N : Nat} (G : H.Good N) (hN : N ≤ 4000000) : H.garbageM ((H.objs.map (·.1)).map numV) = [] := by
  have := HeapM.garbage_collect (H := H) (E := (H.objs.map (·.1)).map numV) G
  rwa [all_collect G hN] at this
theorem all_reached {H : HeapM} {N : Nat} (G : H.Good N) (hN : N ≤ 4000000) : H.reachedM ((H.objs.map (·.1)).map numV) = H.objs.map (·.1) := by
  have := HeapM.collect_keys (H := H) (E := (H.objs.map (·.1)).map numV) G
  rw [all_collect G hN] at this
  exact this.symm
theorem getL_add (H : HeapM) (o : ObjM) (n : Int) (hn : n ≠ H.last + 1) : getL (H.add o).objs n = getL H.objs n := by
  show getL (H.objs ++ [(H.last + 1, o)]) n = _
  unfold getL
  rw [List.find?_append]
  cases h : H.objs.find? fun p => decide (p.1 = n) with
  | some p => rfl
  | none => simp [Ne.symm hn]
theorem gone {H : HeapM} {N : Nat} (G : H.Good N) (E : List V) (o : ObjM) {n : Int} (hn : n ∈ H.objs.map (·.1)) (hl : n ∉ H.reachedM E ++ [H.last + 1]) (hk : okI n) : ((H.collect E).add o).kind (V.ref n hk) = 0 ∧ ((H.collect E).add o).refNs (V.ref n hk) = [] := by
  have h1 : n ≠ H.last + 1 := fun e => hl (by simp [e])
  have h2 : ¬ H.R E n := fun h => hl (List.mem_append_left _ (HeapM.mem_reached.2 h))
  have h3 : getL ((H.collect E).add o).objs n = none := by
    rw [getL_add _ _ _ (by rw [HeapM.collect_last]; exact h1)]
    exact HeapM.collect_gone G h2
  constructor
  · unfold HeapM.kind HeapM.of; rw [if_pos (show (V.ref n hk).kind = 4 from rfl), show (V.ref n hk).n = n from rfl, h3]; rfl
  · rw [HeapM.refNs_ref]; unfold HeapM.refsOf; rw [h3]
set_option maxRecDepth 100000 in
set_option maxHeartbeats 6400000 in
theorem walk (w : World) (kv ev hv : Value) (g : GraphM) (hg : SeesG w kv ev hv g) :
    Calls Try.prog 9 #[.agg #[kv, ev, hv]] w fun e W' => e = .returned (.bool true) ∧ Below w.heap.size w W' := by
  have HG := Lib.hid hg
  obtain ⟨ka, kc, rfl, -, -, -⟩ := hg.kinds
  obtain ⟨ea, ec, rfl, -, -, -⟩ := hg.edges
  obtain ⟨da, dc, rfl, -, -, -⟩ := hg.held
  obtain ⟨bx, hbx⟩ : ∃ bx, w.heap.size = bx := ⟨_, rfl⟩
  have S0 := (Sep.start (Below.refl w.heap.size w)).alloc (.cells #[.slice ka g.kinds.length kc, .slice ea g.edges.length ec, .slice da g.held.length dc] 28)
  have K := Lib.hid (shown_ok (w.alloc (.cells #[.slice ka g.kinds.length kc, .slice ea g.edges.length ec, .slice da g.held.length dc] 28)))
  rw [hbx] at S0
  replace S0 := Lib.hid S0
  have HBX := Lib.hid hbx
  clear hg
  go_enter Try.func9, Try.ntmps9
  go_wp2_with fail
  refine K.out.mono ?_
  rintro e w1 ⟨rfl, b1⟩
  have S1 := S0.out.later b1
  have c0 := cellAt (S1.box 0 rfl) 0 (v := .slice ka g.kinds.length kc) rfl
  have c1 := cellAt (S1.box 0 rfl) 1 (v := .slice ea g.edges.length ec) rfl
  have c2 := cellAt (S1.box 0 rfl) 2 (v := .slice da g.held.length dc) rfl
  have C := Lib.hid (graph_ok S1 _ _ _ g HG.out)
  clear S0 S1 K b1 hbx
  go_wp2_with fail
  refine C.out.mono ?_
  rintro e w2 ⟨h, y, rfl, S2⟩
  replace S2 := S2.tail
  clear c0 c1 c2 C
  have c0 := cellAt (S2.box 1 rfl) 0 (v := .slice ka g.kinds.length kc) rfl
  have c1 := cellAt (S2.box 1 rfl) 1 (v := .slice ea g.edges.length ec) rfl
  have c2 := cellAt (S2.box 1 rfl) 2 (v := .slice da g.held.length dc) rfl
  have C := Lib.hid (graph_ok S2 _ _ _ g HG.out)
  clear S2
  go_wp2_with fail
  refine C.out.mono ?_
  rintro e w2' ⟨k2, y2, rfl, S2⟩
  replace S2 := S2.tail
  clear c0 c1 c2 C
  have c0 := cellAt (S2.box 2 rfl) 0 (v := .slice ka g.kinds.length kc) rfl
  have c1 := cellAt (S2.box 2 rfl) 1 (v := .slice ea g.edges.length ec) rfl
  have c2 := cellAt (S2.box 2 rfl) 2 (v := .slice da g.held.length dc) rfl
  have C := Lib.hid (held_ok S2 (.slice ka g.kinds.length kc) (.slice ea g.edges.length ec) _ rfl g.held HG.out.held)
  clear S2
  go_wp2_with fail
  refine C.out.mono ?_
  rintro e w3 ⟨lv, rfl, S3⟩
  clear c0 c1 c2 C
  have hL := held_len g.held
  obtain ⟨L, hLL⟩ : ∃ L, heldM g.held = L := ⟨_, rfl⟩
  rw [hLL] at S3 hL
  have HL := Lib.hid hL
  clear hLL hL
  obtain ⟨la, lc, rfl⟩ := (S3.row 0 rfl).form
  have FT := Lib.hid (madeM_fit g)
  obtain ⟨Hm, hHm⟩ : ∃ Hm, madeM g = Hm := ⟨_, rfl⟩
  rw [hHm] at S3 FT
  clear hHm HG HBX
  obtain ⟨A, hA⟩ : ∃ A, Hm.objs.map (·.1) = A := ⟨_, rfl⟩
  have C4 := S3.all 2 rfl FT.out.G (by omega)
  rw [hA] at C4
  replace C4 := Lib.hid C4
  have OK : Hid (∀ n ∈ A, okI n) := Lib.hid (by rw [← hA]; exact (HeapM.keys_nums FT.out.G).ok FT.out.G (by omega))
  have hAl : A.length ≤ 100 := by rw [← hA, List.length_map]; exact FT.out.G.len
  have hlA : (A.length : Int) ≤ 100 := by omega
  have hlast : Hm.last ≤ 100 := by have := FT.out.G.wt; have := FT.out.G.ok.last; unfold HeapM.weight at this; omega
  have hlast0 : 0 ≤ Hm.last := FT.out.G.ok.last
  have HA := Lib.hid (And.intro hA (And.intro hAl (And.intro hlast hlast0)))
  clear hA hAl S3 hlast hlast0
  go_wp2_with fail
  refine C4.out.mono ?_
  rintro e w4 ⟨av, rfl, S4, -⟩
  obtain ⟨ava, avc, rfl⟩ := (S4.row 0 rfl).form
  have C5 := Lib.hid (collect_ok S4 3 h rfl FT.out.G (by omega) FT.out.K la lc L (by have := HL.out; omega) (fun H' W' S' => (S'.row 1 rfl).sees') (fun W' => ArgS.row 1 (by decide) rfl))
  clear C4 S4
  go_wp2_with fail
  refine C5.out.mono ?_
  rintro e w5 ⟨rfl, S5⟩
  replace S5 : Sep w [numsR (.slice ava A.length avc) A, valsR (.slice la L.length lc) L, heapR k2 Hm, heapR h (Hm.collect L), boxR bx (.cells #[.slice ka g.kinds.length kc, .slice ea g.edges.length ec, .slice da g.held.length dc] 28)] w5 := S5
  have F5 := FT.out.collect (E := L)
  have C6 := S5.make 3 rfl F5.G (by omega) KC.oA (.slice none 0 0) (sees_none _) (by simp [KC.oA]) rfl (by simp [KC.oA]) (by simp [KC.oA])
  have F6 : ((Hm.collect L).add KC.oA).Fit 102 := (F5.add KC.oA (by simp [KC.oA]) rfl).more (by simp [KC.oA])
  rw [HeapM.collect_last] at C6
  have hkeys : ((Hm.collect L).add KC.oA).objs.map (·.1) = Hm.reachedM L ++ [Hm.last + 1] := by
    show ((Hm.collect L).objs ++ [((Hm.collect L).last + 1, KC.oA)]).map (·.1) = _
    rw [List.map_append, HeapM.collect_keys FT.out.G, HeapM.collect_last]; rfl
  have hgone := fun (n : Int) (hn : n ∈ A) (hl : n ∉ Hm.reachedM L ++ [Hm.last + 1]) => gone FT.out.G L KC.oA (by rw [HA.out.1]; exact hn) hl (OK.out n hn)
  have hle : ∀ n ∈ A, n < Hm.last + 1 := fun n hn => by
    rw [← HA.out.1] at hn
    obtain ⟨p, hp, rfl⟩ := List.mem_map.1 hn
    have := (FT.out.G.ok.pos p hp).2
    omega
  obtain ⟨H2, hH2⟩ : ∃ H2, (Hm.collect L).add KC.oA = H2 := ⟨_, rfl⟩
  obtain ⟨Z, hZ⟩ : ∃ Z, Hm.reachedM L ++ [Hm.last + 1] = Z := ⟨_, rfl⟩
  obtain ⟨N1, hN1⟩ : ∃ N1, Hm.last + 1 = N1 := ⟨_, rfl⟩
  have hZl : Z.length ≤ 101 := by rw [← hZ, List.length_append]; have := HeapM.reached_len FT.out.G L; simp; omega
  rw [hH2, hN1] at C6
  rw [hH2] at F6 hkeys hgone
  rw [hZ] at hkeys hgone
  rw [hN1] at hle
  replace C6 := Lib.hid C6
  have FG := Lib.hid (And.intro F6 (And.intro hkeys (And.intro hgone (And.intro hle hZl))))
  clear F5 F6 hkeys hgone hle hH2 hZ hN1 hZl C5 S5
  go_wp2_with fail
  refine C6.out.mono ?_
  rintro e w6 ⟨rfl, S6⟩
  replace S6 : Sep w [numsR (.slice ava A.length avc) A, valsR (.slice la L.length lc) L, heapR k2 Hm, heapR h H2, boxR bx (.cells #[.slice ka g.kinds.length kc, .slice ea g.edges.length ec, .slice da g.held.length dc] 28)] w6 := S6
  obtain ⟨bv, hbv⟩ : ∃ bv, w6.heap.size = bv := ⟨_, rfl⟩
  have S7 := S6.alloc (.cells #[.int .i64 4, .int .i64 N1, .string ⟨#[]⟩] 41)
  rw [hbv] at S7
  have C8 := S7.all 4 rfl FG.out.1.G (by omega)
  rw [FG.out.2.1] at C8
  replace C8 := Lib.hid C8
  clear C6 S6 S7
  go_wp2_with fail
  refine C8.out.mono ?_
  rintro e w8 ⟨zv, rfl, S8, -⟩
  obtain ⟨zva, zvc, rfl⟩ := (S8.row 0 rfl).form
  obtain ⟨base, hbase⟩ : ∃ base, base = [numsR (.slice zva Z.length zvc) Z, boxR bv (.cells #[.int .i64 4, .int .i64 N1, .string ⟨#[]⟩] 41), numsR (.slice ava A.length avc) A, valsR (.slice la L.length lc) L, heapR k2 Hm, heapR h H2, boxR bx (.cells #[.slice ka g.kinds.length kc, .slice ea g.edges.length ec, .slice da g.held.length dc] 28)] := ⟨_, rfl⟩
  have S8' : Sep w base w8 := by rw [hbase]; exact S8
  have HB : Hid (base[0]? = some (numsR (.slice zva Z.length zvc) Z) ∧ base[1]? = some (boxR bv (.cells #[.int .i64 4, .int .i64 N1, .string ⟨#[]⟩] 41)) ∧ base[2]? = some (numsR (.slice ava A.length avc) A) ∧ base[4]? = some (heapR k2 Hm) ∧ base[5]? = some (heapR h H2) ∧ base.length = 7) := Lib.hid (by subst hbase; exact ⟨rfl, rfl, rfl, rfl, rfl, rfl⟩)
  have SS := Lib.hid S8'
  clear hbase S8 S8' C8 hbv
  go_wp2
  go_loopw [12] (fun i wr => ∃ k : Nat, k ≤ A.length ∧ i = .int .i64 k ∧ Sep w base wr) (fun i _ => A.length - (intOf i).toNat)
  case atStart => exact ⟨0, by omega, rfl, SS.out⟩
  case round =>
    clear SS
    obtain ⟨k, hk, rfl, S17⟩ := hrel
    by_cases hlt : k < A.length
    · have hlti : (k : Int) < A.length := by omega
      obtain ⟨n, hn⟩ : ∃ n, A[k]? = some n := ⟨A[k], by simp [hlt]⟩
      have hm := List.mem_of_getElem? hn
      have hkn := OK.out n hm
      have hnN := FG.out.2.2.2.1 n hm
      have hle : decide (N1 ≤ n) = false := by simp; omega
      obtain ⟨ag, rfl⟩ := S17.numAddr 2 HB.out.2.2.1 hlt
      have KK : Hid (∀ W, Sep w base W → W.cell? ⟨bv, 1, none⟩ = some (.int .i64 N1) ∧ W.cell? ⟨ag, k, none⟩ = some (.int .i64 n)) := Lib.hid fun W S => ⟨cellAt (S.box 1 HB.out.2.1) 1 rfl, S.numCell 2 HB.out.2.2.1 hn⟩
      have HLT := Lib.hid hlt
      have K0 := Lib.hid (fun W (S : Sep w base W) => S.inN 0 HB.out.1 n)
      have S18 := Lib.hid S17
      by_cases hz : n ∈ Z
      · have KQ : Hid (∀ m : Nat, Calls Try.prog 20 #[.slice zva Z.length zvc, .int .i64 n] (wr.drewN m) fun e w' => e = .returned (.bool true) ∧ ∃ q, w' = (wr.drewN m).drewN q) := Lib.hid fun m => by
          have := in_ok (wr.drewN m) _ Z n (SeesN.of_slIs ((S17.drewN m).row 0 HB.out.1))
          rw [show decide (n ∈ Z) = true by simpa using hz] at this; exact this
        obtain ⟨cv, cn⟩ := KK.out wr S17
        clear S17 hz hm hn hlt K0
        go_wp2
        go_quiet (exact Calls.quiet_of (KQ.out _))
        go_wp2
        exact ⟨⟨k + 1, by have := HLT.out; omega, by go_num, S18.out.drewN nq⟩, by have := HLT.out; simp [intOf]; omega⟩
      · rw [show decide (n ∈ Z) = false by simpa using hz] at K0
        have K1 := Lib.hid (fun W (S : Sep w base W) => S.refN n)
        have K2 := Lib.hid (fun W (S : Sep w base W) => by
          have := S.kind 5 HB.out.2.2.2.2.1 (V.ref n hkn)
          rw [(FG.out.2.2.1 n hm hz).1] at this; exact this)
        have K3 := Lib.hid (fun W (S : Sep w base W) => by
          have := S.refs 5 HB.out.2.2.2.2.1 FG.out.1.G (by omega) (V.ref n hkn)
          rw [(FG.out.2.2.1 n hm hz).2] at this; exact this)
        rw [show (V.ref n hkn).val = .agg #[.int .i64 4, .int .i64 n, .string ⟨#[]⟩] from rfl] at K2 K3
        clear S17 hz hm hn hlt
        go_upto_region 14 with fail
        go_cut [91] (fun s91 wx => s91 = .bool false ∧ Sep w base wx)
        case first =>
          have T0 := S18.out
          clear S18
          go_region_held3 (fun W => W.cell? ⟨bv, 1, none⟩ = some (.int .i64 N1) ∧ W.cell? ⟨ag, k, none⟩ = some (.int .i64 n))
            (first | exact KK.out _ (by assumption) | exact KK.out _ (Sep.tail (by assumption)) | exact KK.out _ (Sep.drew (by assumption)))
            (first
            | (go_at_call 20; refine (K0.out _ (by first | assumption | exact Sep.drew (by assumption))).mono ?_; rintro e w6 ⟨rfl, T1⟩)
            | (go_at_call 21; refine (K1.out _ (by first | assumption | exact Sep.drew (by assumption))).mono ?_; rintro e w6 ⟨rfl, T1⟩)
            | (go_at_call 19; refine (K2.out _ (by first | assumption | exact Sep.drew (by assumption))).mono ?_; rintro e w6 ⟨rfl, T1, -⟩)
            | (go_at_call 22; refine (K3.out _ (by first | assumption | exact Sep.drew (by assumption))).mono ?_; rintro e w6 ⟨sv, rfl, T1, -⟩; obtain ⟨sa, sc, rfl⟩ := (T1.row 0 rfl).form))
          all_goals (go_wp2_with fail; go_meet; exact ⟨rfl, by first | assumption | exact Sep.tail (by assumption)⟩)
        case rest =>
          obtain ⟨rfl, S10⟩ := hcut
          replace S10 := Lib.hid S10
          clear S18 KK K0 K1 K2 K3
          go_wp2
          exact ⟨⟨k + 1, by have := HLT.out; omega, by go_num, S10.out⟩, by have := HLT.out; simp [intOf]; omega⟩
    · have hlti : ¬ (k : Int) < A.length := by omega
      have SS := Lib.hid S17.madeVals
      clear hlt S17
      go_wp2
      go_loopw [13, 14] (fun out i wr => ∃ k : Nat, k ≤ A.length ∧ i = .int .i64 k ∧ Sep w (valsR out ((A.take k).map numV) :: base) wr) (fun _ i _ => A.length - (intOf i).toNat)
      case atStart => exact ⟨0, by omega, rfl, SS.out⟩
      case round =>
        clear SS
        obtain ⟨j, hj, rfl, S17⟩ := hrel
        obtain ⟨oa, oc, rfl⟩ := (S17.row 0 rfl).form
        have hLl : ((A.take j).map numV).length ≤ 100 := by have := HA.out.2.1; simp; omega
        obtain ⟨M, hM⟩ : ∃ M, (A.take j).map numV = M := ⟨_, rfl⟩
        rw [hM] at S17 hLl ⊢
        by_cases hlt : j < A.length
        · have hltj : (j : Int) < A.length := by omega
          obtain ⟨n, hn⟩ : ∃ n, A[j]? = some n := ⟨A[j], by simp [hlt]⟩
          have hkn := OK.out n (List.mem_of_getElem? hn)
          obtain ⟨ag, rfl⟩ := S17.numAddr 3 (by simpa using HB.out.2.2.1) hlt
          have cn := S17.numCell 3 (by simpa using HB.out.2.2.1) hn
          have hnext : M ++ [V.ref n hkn] = (A.take (j + 1)).map numV := by rw [← hM, List.take_add_one, hn, List.map_append, ← numV_of hkn]; rfl
          have I1 := Lib.hid (S17.refN n)
          have HX := Lib.hid (And.intro hnext (And.intro hlt hLl))
          clear S17 hnext hn hlt hLl hM
          go_wp2_with fail
          refine I1.out.mono ?_
          rintro e w18 ⟨rfl, S18⟩
          have S19 := S18.alloc (.cells #[.int .i64 4, .int .i64 n, .string ⟨#[]⟩] 41)
          clear I1 S18 cn
          go_wp2_with (at_builtin; refine wpList_append_sep rfl _ _ rfl S19 1 rfl rfl _ [V.ref n hkn] rfl (sees_one (V.ref n hkn) rfl rfl rfl (S19.box 0 rfl)) (by have := HX.out.2.2; simp; omega) ?_)
          intro va vc w5 S20
          have S21 := Lib.hid S20.tail
          clear S19 S20
          go_wp2
          refine ⟨⟨j + 1, by have := HX.out.2.1; omega, by go_num, ?_⟩, by have := HX.out.2.1; simp [intOf]; omega⟩
          rw [← HX.out.1]; simpa using S21.out
        · have hltj : ¬ (j : Int) < A.length := by omega
          have hME : M = A.map numV := by rw [← hM, List.take_of_length_le (by omega)]
          have hcol : Hm.collect M = Hm := by rw [hME, ← HA.out.1]; exact all_collect FT.out.G (by omega)
          have hgar : Hm.garbageM M = [] := by rw [hME, ← HA.out.1]; exact all_garbage FT.out.G (by omega)
          have hrea : Hm.reachedM M = A := by rw [hME, ← HA.out.1]; exact all_reached FT.out.G (by omega)
          have C := collect_ok S17 5 k2 (by simpa using HB.out.2.2.2.1) FT.out.G (by omega) FT.out.K oa oc M (by omega) (fun H' W' S' => (S'.row 0 rfl).sees') (fun W' => ArgS.row 0 (by decide) rfl)
          rw [hcol, Int.sub_self, Int.sub_self, Sep.setSame (by simpa using HB.out.2.2.2.1)] at C
          have HF := Lib.hid (And.intro hgar (And.intro hrea hLl))
          replace C := Lib.hid C
          clear hME hcol hgar hrea S17 hlt hM hLl
          go_wp2_with fail
          refine C.out.mono ?_
          rintro e w20 ⟨rfl, S20⟩
          have C2 := S20.garbageN 5 (by simpa using HB.out.2.2.2.1) FT.out (by omega) _ M ((S20.row 0 rfl).sees') (by have := HF.out.2.2; omega)
          rw [HF.out.1] at C2
          replace C2 := Lib.hid C2
          clear C S20
          go_wp2_with fail
          refine C2.out.mono ?_
          rintro e w21 ⟨v21, rfl, S21⟩
          obtain ⟨va21, vc21, rfl⟩ := (S21.row 0 rfl).form
          replace S21 := S21.tail
          have C := S21.reachedN 5 (by simpa using HB.out.2.2.2.1) FT.out (by omega) _ M ((S21.row 0 rfl).sees') (by have := HF.out.2.2; omega)
          rw [HF.out.2.1] at C
          replace C := Lib.hid C
          clear C2 S21
          go_wp2_with fail
          refine C.out.mono ?_
          rintro e w22 ⟨v22, rfl, S22⟩
          have C2 := S22.sameN 0 4 rfl (by simpa using HB.out.2.2.1) OK.out OK.out
          rw [show decide (A = A) = true by simp] at C2
          replace C2 := Lib.hid C2
          clear C S22
          go_wp2_with fail
          refine C2.out.mono ?_
          rintro e w23 ⟨rfl, S23⟩
          have C := S23.all 6 (by simpa using HB.out.2.2.2.1) FT.out.G (by omega)
          rw [HA.out.1] at C
          replace C := Lib.hid C
          clear C2 S23
          go_wp2_with fail
          refine C.out.mono ?_
          rintro e w24 ⟨v24, rfl, S24, -⟩
          have C2 := S24.sameN 0 5 rfl (by simpa using HB.out.2.2.1) OK.out OK.out
          rw [show decide (A = A) = true by simp] at C2
          replace C2 := Lib.hid C2
          clear C S24
          go_wp2_with fail
          refine C2.out.mono ?_
          rintro e w25 ⟨rfl, S25⟩
          have B := Lib.hid S25.below
          clear C2 S25
          go_wp2
          exact bodyPost_ret (v := .bool true) (by simp [results, Try.results9, go_sem]) rfl ⟨rfl, B.out⟩
set_option maxRecDepth 100000 in
theorem lifted (os : Os) (started : os.Started) (H : Type) (enc : TypeId × Value → H) :
    ReturnsInHanded {} Try.checked os 9 .any (Rows.collectGoesSpec.pre6 enc Try.prog Try.f9 Rows.collectGoesRow.domain false) (Rows.collectGoesSpec.post enc Try.prog Try.f9 false true false false) := by
  refine law_lift (C := Try.checked) own started (by kernel_rfl) Try.func9
    (ChangeSpec.witness6 (enc := enc) (C := Try.checked) false ⟨#[], #[.agg #[.slice none 0 0, .slice none 0 0, .slice none 0 0]], []⟩ 8 (by kernel_rfl) (by kernel_rfl) (by kernel_rfl) (by kernel_rfl))
    (by kernel_rfl) (by kernel_rfl) rfl (fun ds h => by
      match ds, h with
      | [d1], _ => exact ⟨rfl, rfl, rfl⟩) rfl Try.underlying4 ?_
  intro W base args ds ps hval hA hlt hwt hsh
  rw [Try.params9] at hA hval
  obtain ⟨v0, vs0, d0, ds0, p0, q0, hargs, rfl, rfl, h0, r0⟩ := trodAll_cons hA
  obtain ⟨rfl, rfl, rfl⟩ := trodAll_nil r0
  obtain rfl : args = #[v0] := by cases args; simp_all
  obtain ⟨cs0, rfl, hsz0⟩ := okWide_struct Try.underlying28 (hval 0 28 v0 rfl rfl)
  obtain ⟨fuel0, hf0⟩ := h0
  obtain ⟨kv0, ev0, hv0, gr0, e0, sg0⟩ := open_graph (cs := cs0.toList) hf0
  obtain rfl : cs0 = [kv0, ev0, hv0].toArray := by rw [← e0]
  -- WALK
  exact walk W _ _ _ gr0 sg0
theorem proved : Rows.CollectGoesSaid :=
  OpenClaim.holds_of_wide 9 Try.f9 rfl rfl rfl rfl rfl rfl rfl ⟨rfl, rfl, rfl, rfl, rfl⟩ rfl rfl rfl rfl rfl (by kernel_rfl) Try.func9 (by kernel_rfl)
    (of_decide_eq_true (by kernel_rfl)) (by unfold Func.isWrapper; first | (rw [if_pos (by decide +kernel)]; kernel_rfl) | (rw [if_neg (by decide +kernel)]; exact ⟨rfl, rfl⟩))
    (fun os started H enc _ => lifted os started H enc)
#print axioms proved
end Go.Proofs.Ytjinabglachglaa.collectGoes
