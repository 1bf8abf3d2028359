/-
  CollectLeft: for any graph the law returns true: behind a collection just what was reached is left, and has and holds what it had and held; a second one frees nothing, and nothing is garbage. No condition.
-/
import Derived.Test.YtjinabglachglaaLaw13
import Derived.Deep.RegionHeld3
import Derived.Deep.DeepCutAuto
namespace Go.Proofs.Ytjinabglachglaa.collectLeft
set_option linter.unusedSimpArgs false
open Go.ChangeShapes Go.WideShapes Go.ChangeAt Go.RowKit
set_option linter.unusedVariables false
theorem collect_of {H : HeapM} {N : Nat} (G : H.Good N) (E : List V) {n : Int} (hr : H.R E n) (hk : okI n) : (H.collect E).of (V.ref n hk) = H.of (V.ref n hk) := by
  unfold HeapM.of
  rw [if_pos (show (V.ref n hk).kind = 4 from rfl), if_pos (show (V.ref n hk).kind = 4 from rfl)]
  exact HeapM.collect_get G hr
set_option maxRecDepth 100000 in
set_option maxHeartbeats 6400000 in
theorem walk (w : World) (kv ev hv : Value) (g : GraphM) (hg : SeesG w kv ev hv g) :
    Calls Try.prog 10 #[.agg #[kv, ev, hv]] w fun e W' => e = .returned (.bool true) ∧ Below w.heap.size w W' := by
  have HG := Lib.hid hg
  obtain ⟨ka, kc, rfl, -, -, -⟩ := hg.kinds
  obtain ⟨ea, ec, rfl, -, -, -⟩ := hg.edges
  obtain ⟨da, dc, rfl, -, -, -⟩ := hg.held
  obtain ⟨bx, hbx⟩ : ∃ bx, w.heap.size = bx := ⟨_, rfl⟩
  have S0 := (Sep.start (Below.refl w.heap.size w)).alloc (.cells #[.slice ka g.kinds.length kc, .slice ea g.edges.length ec, .slice da g.held.length dc] 28)
  have K := Lib.hid (shown_ok (w.alloc (.cells #[.slice ka g.kinds.length kc, .slice ea g.edges.length ec, .slice da g.held.length dc] 28)))
  rw [hbx] at S0
  replace S0 := Lib.hid S0
  have HBX := Lib.hid hbx
  clear hg
  go_enter Try.func10, Try.ntmps10
  go_wp2_with fail
  refine K.out.mono ?_
  rintro e w1 ⟨rfl, b1⟩
  have S1 := S0.out.later b1
  have c0 := cellAt (S1.box 0 rfl) 0 (v := .slice ka g.kinds.length kc) rfl
  have c1 := cellAt (S1.box 0 rfl) 1 (v := .slice ea g.edges.length ec) rfl
  have c2 := cellAt (S1.box 0 rfl) 2 (v := .slice da g.held.length dc) rfl
  have C := Lib.hid (graph_ok S1 _ _ _ g HG.out)
  clear S0 S1 K b1 hbx
  go_wp2_with fail
  refine C.out.mono ?_
  rintro e w2 ⟨h, y, rfl, S2⟩
  replace S2 := S2.tail
  clear c0 c1 c2 C
  have c0 := cellAt (S2.box 1 rfl) 0 (v := .slice ka g.kinds.length kc) rfl
  have c1 := cellAt (S2.box 1 rfl) 1 (v := .slice ea g.edges.length ec) rfl
  have c2 := cellAt (S2.box 1 rfl) 2 (v := .slice da g.held.length dc) rfl
  have C := Lib.hid (graph_ok S2 _ _ _ g HG.out)
  clear S2
  go_wp2_with fail
  refine C.out.mono ?_
  rintro e w2' ⟨k2, y2, rfl, S2⟩
  replace S2 := S2.tail
  clear c0 c1 c2 C
  have c0 := cellAt (S2.box 2 rfl) 0 (v := .slice ka g.kinds.length kc) rfl
  have c1 := cellAt (S2.box 2 rfl) 1 (v := .slice ea g.edges.length ec) rfl
  have c2 := cellAt (S2.box 2 rfl) 2 (v := .slice da g.held.length dc) rfl
  have C := Lib.hid (held_ok S2 (.slice ka g.kinds.length kc) (.slice ea g.edges.length ec) _ rfl g.held HG.out.held)
  clear S2
  go_wp2_with fail
  refine C.out.mono ?_
  rintro e w3 ⟨lv, rfl, S3⟩
  clear c0 c1 c2 C
  have hL := held_len g.held
  obtain ⟨L, hLL⟩ : ∃ L, heldM g.held = L := ⟨_, rfl⟩
  rw [hLL] at S3 hL
  have HL := Lib.hid hL
  clear hLL hL
  obtain ⟨la, lc, rfl⟩ := (S3.row 0 rfl).form
  have FT := Lib.hid (madeM_fit g)
  obtain ⟨Hm, hHm⟩ : ∃ Hm, madeM g = Hm := ⟨_, rfl⟩
  rw [hHm] at S3 FT
  clear hHm HG HBX
  have C4 := Lib.hid (S3.live 2 rfl FT.out.G (by omega) 0)
  have hl0 : Hm.live 0 = Hm.objs.length := by unfold HeapM.live; rw [List.filter_eq_self.2 (by simp)]
  rw [hl0] at C4
  have hlen : Hm.objs.length ≤ 100 := FT.out.G.len
  have hl6 : Hm.live 6 ≤ Hm.objs.length := List.length_filter_le _ _
  have HLN := Lib.hid (And.intro hlen hl6)
  clear S3 hl0 hlen hl6
  go_wp2_with fail
  refine C4.out.mono ?_
  rintro e w4 ⟨rfl, S4, -⟩
  have C5 := Lib.hid (S4.live 2 rfl FT.out.G (by omega) 6)
  clear C4 S4
  go_wp2_with fail
  refine C5.out.mono ?_
  rintro e w5 ⟨rfl, S5, -⟩
  have C6 := Lib.hid (S5.reachedN 2 rfl FT.out (by omega) _ L ((S5.row 0 rfl).sees') (by have := HL.out; omega))
  clear C5 S5
  go_wp2_with fail
  refine C6.out.mono ?_
  rintro e w6 ⟨rv, rfl, S6⟩
  obtain ⟨rva, rvc, rfl⟩ := (S6.row 0 rfl).form
  have C7 := Lib.hid (collect_ok S6 3 h rfl FT.out.G (by omega) FT.out.K la lc L (by have := HL.out; omega) (fun H' W' S' => (S'.row 1 rfl).sees') (fun W' => ArgS.row 1 (by decide) rfl))
  clear C6 S6
  go_wp2_with fail
  refine C7.out.mono ?_
  rintro e w7 ⟨rfl, S7⟩
  replace S7 : Sep w [numsR (.slice rva (Hm.reachedM L).length rvc) (Hm.reachedM L), valsR (.slice la L.length lc) L, heapR k2 Hm, heapR h (Hm.collect L), boxR bx (.cells #[.slice ka g.kinds.length kc, .slice ea g.edges.length ec, .slice da g.held.length dc] 28)] w7 := S7
  have F1 := FT.out.collect (E := L)
  have hkeys := HeapM.collect_keys (E := L) FT.out.G
  have hcl : (Hm.collect L).objs.length = (Hm.reachedM L).length := by rw [← hkeys, List.length_map]
  have hc6 : (Hm.collect L).live 6 ≤ (Hm.collect L).objs.length := List.length_filter_le _ _
  have hRl := HeapM.reached_len FT.out.G L
  have hRok := HeapM.reached_ok FT.out.G (by omega) L
  have hof := fun (n : Int) (hn : n ∈ Hm.reachedM L) (hk : okI n) => collect_of FT.out.G L (HeapM.mem_reached.1 hn) hk
  have href := fun (n : Int) (hn : n ∈ Hm.reachedM L) => HeapM.collect_refs FT.out.G (E := L) (HeapM.mem_reached.1 hn)
  have hcc := HeapM.collect_collect (E := L) FT.out.G
  have hgg := HeapM.garbage_collect (E := L) FT.out.G
  have hrr := HeapM.reached_collect (E := L) FT.out.G
  rw [hcl]
  rw [hcl] at hc6
  obtain ⟨H1, hH1⟩ : ∃ H1, Hm.collect L = H1 := ⟨_, rfl⟩
  obtain ⟨R, hR⟩ : ∃ R, Hm.reachedM L = R := ⟨_, rfl⟩
  rw [hH1, hR] at S7 ⊢
  rw [hH1] at F1 hcc hgg hc6
  rw [hH1, hR] at hkeys hrr
  rw [hR] at hRl hRok hc6
  rw [hH1, hR] at hof href
  obtain ⟨c0, hc0⟩ : ∃ c, Hm.objs.length = c := ⟨_, rfl⟩
  obtain ⟨c6, hc6'⟩ : ∃ c, Hm.live 6 = c := ⟨_, rfl⟩
  obtain ⟨d6, hd6⟩ : ∃ c, H1.live 6 = c := ⟨_, rfl⟩
  rw [hc0, hc6', hd6]
  rw [hc0, hc6'] at HLN
  rw [hd6] at hc6
  have w1' : wrap64 ((c0 : Int) - R.length) = (c0 : Int) - R.length := by have := HLN.out; exact wrap64_id _ (by omega)
  have w2' : wrap64 ((c6 : Int) - d6) = (c6 : Int) - d6 := by have := HLN.out; exact wrap64_id _ (by omega)
  have hlR : (R.length : Int) ≤ 100 := by omega
  have FA := Lib.hid (And.intro F1 (And.intro hkeys (And.intro hof (And.intro href (And.intro hcc (And.intro hgg (And.intro hrr (And.intro hRok hd6))))))))
  replace S7 := Lib.hid S7
  clear F1 hkeys hcl hc6 hRl hRok hof href hcc hgg hrr hH1 hR hc0 hc6' hd6 C7 HLN
  have C8 := S7.out.live 3 rfl FA.out.1.G (by omega) 6
  rw [FA.out.2.2.2.2.2.2.2.2] at C8
  replace C8 := Lib.hid C8
  clear S7
  go_wp2_with fail
  refine C8.out.mono ?_
  rintro e w8 ⟨rfl, S8, -⟩
  have C9 := S8.all 3 rfl FA.out.1.G (by omega)
  rw [FA.out.2.1] at C9
  replace C9 := Lib.hid C9
  clear C8 S8
  go_wp2_with fail
  refine C9.out.mono ?_
  rintro e w9 ⟨zv, rfl, S9, -⟩
  have C10 := S9.sameN 0 1 rfl rfl FA.out.2.2.2.2.2.2.2.1 FA.out.2.2.2.2.2.2.2.1
  rw [show decide (R = R) = true by simp] at C10
  replace C10 := Lib.hid C10
  clear C9 S9
  go_wp2_with fail
  refine C10.out.mono ?_
  rintro e w10 ⟨rfl, S10⟩
  replace S10 := S10.tail
  obtain ⟨base, hbase⟩ : ∃ base, base = [numsR (.slice rva R.length rvc) R, valsR (.slice la L.length lc) L, heapR k2 Hm, heapR h H1, boxR bx (.cells #[.slice ka g.kinds.length kc, .slice ea g.edges.length ec, .slice da g.held.length dc] 28)] := ⟨_, rfl⟩
  rw [← hbase] at S10
  have HB : Hid (base[0]? = some (numsR (.slice rva R.length rvc) R) ∧ base[1]? = some (valsR (.slice la L.length lc) L) ∧ base[2]? = some (heapR k2 Hm) ∧ base[3]? = some (heapR h H1)) := Lib.hid (by subst hbase; exact ⟨rfl, rfl, rfl, rfl⟩)
  have SS := Lib.hid S10
  clear hbase S10 C10
  go_wp2
  go_loopw [14] (fun i wr => ∃ k : Nat, k ≤ R.length ∧ i = .int .i64 k ∧ Sep w base wr) (fun i _ => R.length - (intOf i).toNat)
  case atStart => exact ⟨0, by omega, rfl, SS.out⟩
  case round =>
    clear SS
    obtain ⟨k, hk, rfl, S17⟩ := hrel
    by_cases hlt : k < R.length
    · have hlti : (k : Int) < R.length := by omega
      obtain ⟨n, hn⟩ : ∃ n, R[k]? = some n := ⟨R[k], by simp [hlt]⟩
      have hm := List.mem_of_getElem? hn
      have hkn := FA.out.2.2.2.2.2.2.2.1 n hm
      obtain ⟨rg, rfl⟩ := S17.numAddr 0 HB.out.1 hlt
      have cn := S17.numCell 0 HB.out.1 hn
      have hof := FA.out.2.2.1 n hm hkn
      have href := FA.out.2.2.2.1 n hm
      have e1 : H1.kind (V.ref n hkn) = Hm.kind (V.ref n hkn) := by unfold HeapM.kind; rw [hof]
      have e2 : H1.num (V.ref n hkn) = Hm.num (V.ref n hkn) := by unfold HeapM.num; rw [hof]
      have e3 : H1.items (V.ref n hkn) = Hm.items (V.ref n hkn) := by unfold HeapM.items; rw [hof]
      have e4 : H1.pairs (V.ref n hkn) = Hm.pairs (V.ref n hkn) := by unfold HeapM.pairs; rw [hof]
      have e5 : H1.refNs (V.ref n hkn) = Hm.refNs (V.ref n hkn) := by rw [HeapM.refNs_ref, HeapM.refNs_ref, href]
      have hq3 : ∀ Q : List Res, (Q ++ base)[Q.length + 3]? = some (heapR h H1) := fun Q => by rw [List.getElem?_append_right (by omega)]; simpa using HB.out.2.2.2
      have hq2 : ∀ Q : List Res, (Q ++ base)[Q.length + 2]? = some (heapR k2 Hm) := fun Q => by rw [List.getElem?_append_right (by omega)]; simpa using HB.out.2.2.1
      have K1 := fun W (Q : List Res) (S : Sep w (Q ++ base) W) => S.kind (Q.length + 3) (hq3 Q) (V.ref n hkn)
      have K1' := fun W (Q : List Res) (S : Sep w (Q ++ base) W) => S.kind (Q.length + 2) (hq2 Q) (V.ref n hkn)
      have K2 := fun W (Q : List Res) (S : Sep w (Q ++ base) W) => S.num (Q.length + 3) (hq3 Q) (V.ref n hkn)
      have K2' := fun W (Q : List Res) (S : Sep w (Q ++ base) W) => S.num (Q.length + 2) (hq2 Q) (V.ref n hkn)
      have K3 := fun W (Q : List Res) (S : Sep w (Q ++ base) W) => S.items (Q.length + 3) (hq3 Q) FA.out.1.G (by omega) (V.ref n hkn)
      have K3' := fun W (Q : List Res) (S : Sep w (Q ++ base) W) => S.items (Q.length + 2) (hq2 Q) FT.out.G (by omega) (V.ref n hkn)
      have K4 := fun W (Q : List Res) (S : Sep w (Q ++ base) W) => S.keys (Q.length + 3) (hq3 Q) (V.ref n hkn)
      have K4' := fun W (Q : List Res) (S : Sep w (Q ++ base) W) => S.keys (Q.length + 2) (hq2 Q) (V.ref n hkn)
      have K5 := fun W (Q : List Res) (S : Sep w (Q ++ base) W) => S.refs (Q.length + 3) (hq3 Q) FA.out.1.G (by omega) (V.ref n hkn)
      have K5' := fun W (Q : List Res) (S : Sep w (Q ++ base) W) => S.refs (Q.length + 2) (hq2 Q) FT.out.G (by omega) (V.ref n hkn)
      simp only [e1, e2, e3, e4, e5] at K1 K2 K3 K4 K5
      have hOk : ∀ m ∈ Hm.refNs (V.ref n hkn), okI m := fun m hm => by
        rw [HeapM.refNs_ref] at hm
        exact HeapM.live_ok FT.out.G (by omega) (Hm.refsOf_live n m hm)
      obtain ⟨kd, hkd⟩ : ∃ x, Hm.kind (V.ref n hkn) = x := ⟨_, rfl⟩
      obtain ⟨nm, hnm⟩ : ∃ x, Hm.num (V.ref n hkn) = x := ⟨_, rfl⟩
      obtain ⟨I, hI⟩ : ∃ x, Hm.items (V.ref n hkn) = x := ⟨_, rfl⟩
      obtain ⟨Y, hY⟩ : ∃ x, (Hm.pairs (V.ref n hkn)).map (·.1) = x := ⟨_, rfl⟩
      obtain ⟨O, hO⟩ : ∃ x, Hm.refNs (V.ref n hkn) = x := ⟨_, rfl⟩
      have hvv : (V.ref n hkn).val = .agg #[.int .i64 4, .int .i64 n, .string ⟨#[]⟩] := rfl
      simp only [hkd, hvv] at K1 K1'
      simp only [hnm, hvv] at K2 K2'
      simp only [hI, hvv] at K3 K3'
      simp only [hY, hvv] at K4 K4'
      simp only [hO, hvv] at K5 K5'
      rw [hO] at hOk
      have HOk := Lib.hid hOk
      clear hq2 hq3 hOk hkd hnm hI hY hO hvv e1 e2 e3 e4 e5 hof href
      have I1 := Lib.hid (S17.refN n)
      have HLT := Lib.hid hlt
      clear S17 hm hn hlt
      go_wp2_with fail
      refine I1.out.mono ?_
      rintro e w18 ⟨rfl, S18⟩
      obtain ⟨vb, hvb⟩ : ∃ vb, w18.heap.size = vb := ⟨_, rfl⟩
      have S19 := S18.alloc (.cells #[.int .i64 4, .int .i64 n, .string ⟨#[]⟩] 41)
      rw [hvb] at S19
      obtain ⟨B0, hB0⟩ : ∃ B0, B0 = boxR vb (.cells #[.int .i64 4, .int .i64 n, .string ⟨#[]⟩] 41) := ⟨_, rfl⟩
      rw [← hB0] at S19
      have KK : Hid (∀ W (Q : List Res), Sep w (Q ++ B0 :: base) W → W.cell? ⟨vb, 0, none⟩ = some (.int .i64 4) ∧ W.cell? ⟨vb, 1, none⟩ = some (.int .i64 n) ∧ W.cell? ⟨vb, 2, none⟩ = some (.string ⟨#[]⟩)) := Lib.hid fun W Q S => by
        have hb := S.box (b := vb) (o := (.cells #[.int .i64 4, .int .i64 n, .string ⟨#[]⟩] 41)) Q.length (by simp [hB0])
        exact ⟨cellAt hb 0 rfl, cellAt hb 1 rfl, cellAt hb 2 rfl⟩
      have L1 := Lib.hid (fun W (S : Sep w (B0 :: base) W) => K1 W [B0] S)
      have L1' := Lib.hid (fun W (S : Sep w (B0 :: base) W) => K1' W [B0] S)
      have L2 := Lib.hid (fun W (S : Sep w (B0 :: base) W) => K2 W [B0] S)
      have L2' := Lib.hid (fun W (S : Sep w (B0 :: base) W) => K2' W [B0] S)
      have L3 := Lib.hid (fun W (S : Sep w (B0 :: base) W) => K3 W [B0] S)
      have L3' := Lib.hid (fun W X (S : Sep w (X :: B0 :: base) W) => K3' W [X, B0] S)
      have L4 := Lib.hid (fun W (S : Sep w (B0 :: base) W) => K4 W [B0] S)
      have L4' := Lib.hid (fun W X (S : Sep w (X :: B0 :: base) W) => K4' W [X, B0] S)
      have L5 := Lib.hid (fun W (S : Sep w (B0 :: base) W) => K5 W [B0] S)
      have L5' := Lib.hid (fun W X (S : Sep w (X :: B0 :: base) W) => K5' W [X, B0] S)
      have KS : Hid (∀ W Z a1 b1 a2 b2, Sep w (valsR (.slice a2 Z.length b2) Z :: valsR (.slice a1 Z.length b1) Z :: B0 :: base) W → Calls Try.prog 36 #[.slice a1 Z.length b1, .slice a2 Z.length b2] W fun e w1 => e = .returned (.bool true) ∧ Sep w (B0 :: base) w1) := Lib.hid fun W Z a1 b1 a2 b2 S => by
        refine (same_vals W _ _ Z Z (S.row 1 rfl).sees' (S.row 0 rfl).sees').mono fun e w1 ⟨h1, q, h2⟩ => ⟨by rw [h1]; simp, by rw [h2]; exact S.tail.tail.drewN q⟩
      have KN : Hid (∀ W a1 b1 a2 b2, Sep w (numsR (.slice a2 O.length b2) O :: numsR (.slice a1 O.length b1) O :: B0 :: base) W → Calls Try.prog 24 #[.slice a1 O.length b1, .slice a2 O.length b2] W fun e w1 => e = .returned (.bool true) ∧ Sep w (B0 :: base) w1) := Lib.hid fun W a1 b1 a2 b2 S => by
        refine (S.sameN 1 0 rfl rfl HOk.out HOk.out).mono fun e w1 ⟨h1, h2⟩ => ⟨by rw [h1]; simp, h2.tail.tail⟩
      have S20 := Lib.hid S19
      clear I1 S18 S19 cn hB0 K1 K1' K2 K2' K3 K3' K4 K4' K5 K5'
      go_upto_region 17 with fail
      obtain ⟨wb, hwb⟩ : ∃ wb, w18.alloc (.cells #[.int .i64 4, .int .i64 n, .string ⟨#[]⟩] 41) = wb := ⟨_, rfl⟩
      rw [hwb] at S20 ⊢
      clear hwb hvb
      go_cut [131] (fun s131 wx => s131 = .bool false ∧ Sep w base wx)
      case first =>
        have T0 := S20.out
        clear S20
        go_region_held3 (fun W => W.cell? ⟨vb, 0, none⟩ = some (.int .i64 4) ∧ W.cell? ⟨vb, 1, none⟩ = some (.int .i64 n) ∧ W.cell? ⟨vb, 2, none⟩ = some (.string ⟨#[]⟩))
          (first | exact KK.out _ [] (by assumption) | exact KK.out _ [_] (by assumption) | exact KK.out _ [_, _] (by assumption) | exact KK.out _ [] (Sep.drew (by assumption)))
          (first
            | (go_at_call_of 19 (Value.pointer (some ⟨h, 0, none⟩)); refine (L1.out _ (by first | assumption | exact Sep.drew (by assumption))).mono ?_; rintro e w6 ⟨rfl, T1, -⟩)
            | (go_at_call_of 19 (Value.pointer (some ⟨k2, 0, none⟩)); refine (L1'.out _ (by first | assumption | exact Sep.drew (by assumption))).mono ?_; rintro e w6 ⟨rfl, T1, -⟩)
            | (go_at_call_of 35 (Value.pointer (some ⟨h, 0, none⟩)); refine (L2.out _ (by first | assumption | exact Sep.drew (by assumption))).mono ?_; rintro e w6 ⟨rfl, T1, -⟩)
            | (go_at_call_of 35 (Value.pointer (some ⟨k2, 0, none⟩)); refine (L2'.out _ (by first | assumption | exact Sep.drew (by assumption))).mono ?_; rintro e w6 ⟨rfl, T1, -⟩)
            | (go_at_call_of 37 (Value.pointer (some ⟨k2, 0, none⟩)); refine (L3'.out _ _ (by assumption)).mono ?_; rintro e w6 ⟨sv, rfl, T1, -⟩; obtain ⟨sa, sc, rfl⟩ := (T1.row 0 rfl).form)
            | (go_at_call_of 37 (Value.pointer (some ⟨h, 0, none⟩)); refine (L3.out _ (by first | assumption | exact Sep.drew (by assumption))).mono ?_; rintro e w6 ⟨sv, rfl, T1, -⟩; obtain ⟨sa, sc, rfl⟩ := (T1.row 0 rfl).form)
            | (go_at_call_of 38 (Value.pointer (some ⟨k2, 0, none⟩)); refine (L4'.out _ _ (by assumption)).mono ?_; rintro e w6 ⟨sv, rfl, T1, -⟩; obtain ⟨sa, sc, rfl⟩ := (T1.row 0 rfl).form)
            | (go_at_call_of 38 (Value.pointer (some ⟨h, 0, none⟩)); refine (L4.out _ (by first | assumption | exact Sep.drew (by assumption))).mono ?_; rintro e w6 ⟨sv, rfl, T1, -⟩; obtain ⟨sa, sc, rfl⟩ := (T1.row 0 rfl).form)
            | (go_at_call_of 22 (Value.pointer (some ⟨k2, 0, none⟩)); refine (L5'.out _ _ (by assumption)).mono ?_; rintro e w6 ⟨sv, rfl, T1, -⟩; obtain ⟨sa, sc, rfl⟩ := (T1.row 0 rfl).form)
            | (go_at_call_of 22 (Value.pointer (some ⟨h, 0, none⟩)); refine (L5.out _ (by first | assumption | exact Sep.drew (by assumption))).mono ?_; rintro e w6 ⟨sv, rfl, T1, -⟩; obtain ⟨sa, sc, rfl⟩ := (T1.row 0 rfl).form)
            | (go_at_call 24; refine (KN.out _ _ _ _ _ (by assumption)).mono ?_; rintro e w6 ⟨rfl, T1⟩)
            | (go_at_call 36; refine (KS.out _ _ _ _ _ _ (by assumption)).mono ?_; rintro e w6 ⟨rfl, T1⟩))
        all_goals (go_wp2_with fail; go_meet; exact ⟨rfl, Sep.tail (by assumption)⟩)
      case rest =>
        obtain ⟨rfl, S21⟩ := hcut
        replace S21 := Lib.hid S21
        clear S20 L1 L1' L2 L2' L3 L3' L4 L4' L5 L5' KS KN KK
        go_wp2
        exact ⟨⟨k + 1, by have := HLT.out; omega, by go_num, S21.out⟩, by have := HLT.out; simp [intOf]; omega⟩
    · have hlti : ¬ (k : Int) < R.length := by omega
      have C := collect_ok S17 3 h HB.out.2.2.2 FA.out.1.G (by omega) FA.out.1.K la lc L (by have := HL.out; omega) (fun H' W' S' => (S'.row 1 (by rw [List.getElem?_set_ne (by decide)]; exact HB.out.2.1)).sees') (fun W' => ArgS.row 1 (by decide) HB.out.2.1)
      rw [FA.out.2.2.2.2.1, Int.sub_self, Int.sub_self, Sep.setSame HB.out.2.2.2] at C
      replace C := Lib.hid C
      clear hlt S17
      go_wp2_with fail
      refine C.out.mono ?_
      rintro e w20 ⟨rfl, S20⟩
      have C2 := S20.garbageN 3 HB.out.2.2.2 FA.out.1 (by omega) _ L ((S20.row 1 HB.out.2.1).sees') (by have := HL.out; omega)
      rw [FA.out.2.2.2.2.2.1] at C2
      replace C2 := Lib.hid C2
      clear C S20
      go_wp2_with fail
      refine C2.out.mono ?_
      rintro e w21 ⟨v21, rfl, S21⟩
      obtain ⟨va21, vc21, rfl⟩ := (S21.row 0 rfl).form
      replace S21 := S21.tail
      have C := S21.reachedN 3 HB.out.2.2.2 FA.out.1 (by omega) _ L ((S21.row 1 HB.out.2.1).sees') (by have := HL.out; omega)
      rw [FA.out.2.2.2.2.2.2.1] at C
      replace C := Lib.hid C
      clear C2 S21
      go_wp2_with fail
      refine C.out.mono ?_
      rintro e w22 ⟨v22, rfl, S22⟩
      have C2 := S22.sameN 0 1 rfl (by simpa using HB.out.1) FA.out.2.2.2.2.2.2.2.1 FA.out.2.2.2.2.2.2.2.1
      rw [show decide (R = R) = true by simp] at C2
      replace C2 := Lib.hid C2
      clear C S22
      go_wp2_with fail
      refine C2.out.mono ?_
      rintro e w23 ⟨rfl, S23⟩
      have B := Lib.hid S23.below
      clear C2 S23
      go_wp2
      exact bodyPost_ret (v := .bool true) (by simp [results, Try.results10, go_sem]) rfl ⟨rfl, B.out⟩
set_option maxRecDepth 100000 in
theorem lifted (os : Os) (started : os.Started) (H : Type) (enc : TypeId × Value → H) :
    ReturnsInHanded {} Try.checked os 10 .any (Rows.collectLeftSpec.pre6 enc Try.prog Try.f10 Rows.collectLeftRow.domain false) (Rows.collectLeftSpec.post enc Try.prog Try.f10 false true false false) := by
  refine law_lift (C := Try.checked) own started (by kernel_rfl) Try.func10
    (ChangeSpec.witness6 (enc := enc) (C := Try.checked) false ⟨#[], #[.agg #[.slice none 0 0, .slice none 0 0, .slice none 0 0]], []⟩ 8 (by kernel_rfl) (by kernel_rfl) (by kernel_rfl) (by kernel_rfl))
    (by kernel_rfl) (by kernel_rfl) rfl (fun ds h => by
      match ds, h with
      | [d1], _ => exact ⟨rfl, rfl, rfl⟩) rfl Try.underlying4 ?_
  intro W base args ds ps hval hA hlt hwt hsh
  rw [Try.params10] at hA hval
  obtain ⟨v0, vs0, d0, ds0, p0, q0, hargs, rfl, rfl, h0, r0⟩ := trodAll_cons hA
  obtain ⟨rfl, rfl, rfl⟩ := trodAll_nil r0
  obtain rfl : args = #[v0] := by cases args; simp_all
  obtain ⟨cs0, rfl, hsz0⟩ := okWide_struct Try.underlying28 (hval 0 28 v0 rfl rfl)
  obtain ⟨fuel0, hf0⟩ := h0
  obtain ⟨kv0, ev0, hv0, gr0, e0, sg0⟩ := open_graph (cs := cs0.toList) hf0
  obtain rfl : cs0 = [kv0, ev0, hv0].toArray := by rw [← e0]
  -- WALK
  exact walk W _ _ _ gr0 sg0
theorem proved : Rows.CollectLeftSaid :=
  OpenClaim.holds_of_wide 10 Try.f10 rfl rfl rfl rfl rfl rfl rfl ⟨rfl, rfl, rfl, rfl, rfl⟩ rfl rfl rfl rfl rfl (by kernel_rfl) Try.func10 (by kernel_rfl)
    (of_decide_eq_true (by kernel_rfl)) (by unfold Func.isWrapper; first | (rw [if_pos (by decide +kernel)]; kernel_rfl) | (rw [if_neg (by decide +kernel)]; exact ⟨rfl, rfl⟩))
    (fun os started H enc _ => lifted os started H enc)
#print axioms proved
end Go.Proofs.Ytjinabglachglaa.collectLeft
