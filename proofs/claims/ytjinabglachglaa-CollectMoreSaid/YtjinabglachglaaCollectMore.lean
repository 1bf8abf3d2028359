/-
  CollectMore: for any graph and any row of bytes the law returns true: the more is held, the more is reached, and the less is garbage; the order in which it is handed in does not matter, nor how often; what is of no object does not. No condition.
-/
import Derived.Test.YtjinabglachglaaLaw13
namespace Go.Proofs.Ytjinabglachglaa.collectMore
set_option linter.unusedSimpArgs false
open Go.ChangeShapes Go.WideShapes Go.ChangeAt Go.RowKit
set_option linter.unusedVariables false
theorem node_live (g : GraphM) {n : Int} (h : (getL (madeM g).objs n).isSome = true) : 1 ≤ n ∧ n ≤ 12 := by
  obtain ⟨o, ho⟩ := Option.isSome_iff_exists.1 h
  have h1 := (madeM_fit g).G.ok.pos _ (getL_mem ho)
  have h2 : (madeM g).last = ((manyM g.kinds : Nat) : Int) := by
    show (wireM 0 _ _ _).last = _
    rw [wireM_last]; exact baseM_last _ _
  have := manyM_le g.kinds
  simp only at h1
  omega
def outs : List V := [V.zero, V.ref 0 (by decide), V.ref (-1) (by decide), V.ref 99 (by decide)]
theorem outs_none (g : GraphM) : (madeM g).reachedM outs = [] := by
  refine HeapM.reached_none fun n hn hc => ?_
  have := node_live g hn
  obtain ⟨v, hv, h1, h2⟩ := cnt_pos.1 hc
  simp only [outs, List.mem_cons, List.not_mem_nil, or_false] at hv
  rcases hv with rfl | rfl | rfl | rfl
  · cases h1
  all_goals (simp only [V.ref] at h2; omega)
theorem turned_cnt (L M : List V) (n : Int) : 0 < cnt (L ++ M) n ↔ 0 < cnt (M ++ (L ++ M)) n := by
  rw [cnt_append, cnt_append, cnt_append]
  have := cnt_nonneg L n
  have := cnt_nonneg M n
  omega
theorem sees_outs {W : World} {bk : Nat} (h : W.heap[bk]? = some (.cells #[.int .i64 0, .int .i64 0, .string ⟨#[]⟩, .int .i64 4, .int .i64 0, .string ⟨#[]⟩, .int .i64 4, .int .i64 (-1), .string ⟨#[]⟩, .int .i64 4, .int .i64 99, .string ⟨#[]⟩] 41)) : SeesV W (.slice (some ⟨bk, 0, none⟩) 4 4) outs := by
  refine ⟨_, 4, rfl, by simp [outs], by simp [maxLen], .inr ⟨bk, 0, rfl, fun i x hx => ?_⟩⟩
  match i, hx with
  | 0, hx => simp [outs] at hx; subst hx; exact ⟨cellAt h 0 rfl, cellAt h 1 rfl, cellAt h 2 rfl⟩
  | 1, hx => simp [outs] at hx; subst hx; exact ⟨cellAt h 3 rfl, cellAt h 4 rfl, cellAt h 5 rfl⟩
  | 2, hx => simp [outs] at hx; subst hx; exact ⟨cellAt h 6 rfl, cellAt h 7 rfl, cellAt h 8 rfl⟩
  | 3, hx => simp [outs] at hx; subst hx; exact ⟨cellAt h 9 rfl, cellAt h 10 rfl, cellAt h 11 rfl⟩
  | i + 4, hx => simp [outs] at hx
set_option maxRecDepth 100000 in
set_option maxHeartbeats 6400000 in
theorem walk (w : World) (kv ev hv sv : Value) (g : GraphM) (B : List Nat) (hg : SeesG w kv ev hv g) (hs : SeesB w sv B) :
    Calls Try.prog 7 #[.agg #[kv, ev, hv], sv] w fun e W' => e = .returned (.bool true) ∧ Below w.heap.size w W' := by
  have HG := Lib.hid hg
  have HS := Lib.hid hs
  obtain ⟨ka, kc, rfl, -, -, -⟩ := hg.kinds
  obtain ⟨ea, ec, rfl, -, -, -⟩ := hg.edges
  obtain ⟨da, dc, rfl, -, -, -⟩ := hg.held
  obtain ⟨sa, sc, rfl, -, -, -⟩ := hs
  obtain ⟨bx, hbx⟩ : ∃ bx, w.heap.size = bx := ⟨_, rfl⟩
  have S0 := (Sep.start (Below.refl w.heap.size w)).alloc (.cells #[.slice ka g.kinds.length kc, .slice ea g.edges.length ec, .slice da g.held.length dc] 28)
  have K := Lib.hid (shown_ok (w.alloc (.cells #[.slice ka g.kinds.length kc, .slice ea g.edges.length ec, .slice da g.held.length dc] 28)))
  rw [hbx] at S0
  replace S0 := Lib.hid S0
  have HBX := Lib.hid hbx
  clear hg
  go_enter Try.func7, Try.ntmps7
  go_wp2_with fail
  refine K.out.mono ?_
  rintro e w1 ⟨rfl, b1⟩
  have S1 := S0.out.later b1
  have c0 := cellAt (S1.box 0 rfl) 0 (v := .slice ka g.kinds.length kc) rfl
  have c1 := cellAt (S1.box 0 rfl) 1 (v := .slice ea g.edges.length ec) rfl
  have c2 := cellAt (S1.box 0 rfl) 2 (v := .slice da g.held.length dc) rfl
  have C := Lib.hid (graph_ok S1 _ _ _ g HG.out)
  clear S0 S1 K b1 hbx
  go_wp2_with fail
  refine C.out.mono ?_
  rintro e w2 ⟨h, y, rfl, S2⟩
  replace S2 := S2.tail
  clear c0 c1 c2 C
  have c0 := cellAt (S2.box 1 rfl) 0 (v := .slice ka g.kinds.length kc) rfl
  have c1 := cellAt (S2.box 1 rfl) 1 (v := .slice ea g.edges.length ec) rfl
  have c2 := cellAt (S2.box 1 rfl) 2 (v := .slice da g.held.length dc) rfl
  have C := Lib.hid (held_ok S2 (.slice ka g.kinds.length kc) (.slice ea g.edges.length ec) _ rfl g.held HG.out.held)
  clear S2
  go_wp2_with fail
  refine C.out.mono ?_
  rintro e w3 ⟨lv, rfl, S3⟩
  have C2 := Lib.hid (held_ok S3 (.slice none 0 0) (.slice none 0 0) _ rfl B HS.out)
  clear c0 c1 c2 C S3
  go_wp2_with fail
  refine C2.out.mono ?_
  rintro e w4 ⟨mv, rfl, S4⟩
  have hL := held_len g.held
  have hM := held_len B
  obtain ⟨L, hLL⟩ : ∃ L, heldM g.held = L := ⟨_, rfl⟩
  obtain ⟨M, hMM⟩ : ∃ M, heldM B = M := ⟨_, rfl⟩
  rw [hLL] at S4 hL
  rw [hMM] at S4 hM
  have HLM := Lib.hid (And.intro hL hM)
  clear hLL hMM hL hM C2
  obtain ⟨la, lc, rfl⟩ := (S4.row 1 rfl).form
  obtain ⟨ma, mc, rfl⟩ := (S4.row 0 rfl).form
  have S5 := S4.madeVals
  clear S4
  go_wp2_with (at_builtin; refine wpList_append_sep rfl _ _ rfl S5 0 rfl rfl _ _ rfl ((S5.row 2 rfl).sees') (by have := HLM.out; simp; omega) ?_)
  intro va vc w5 S6
  clear S5
  go_wp2_with (at_builtin; refine wpList_append_sep rfl _ _ rfl S6 0 rfl rfl _ _ rfl ((S6.row 1 rfl).sees') (by have := HLM.out; simp; omega) ?_)
  intro va2 vc2 w6 S7
  have S8 := S7.madeVals
  clear S6 S7
  go_wp2_with (at_builtin; refine wpList_append_sep rfl _ _ rfl S8 0 rfl rfl _ _ rfl ((S8.row 2 rfl).sees') (by have := HLM.out; simp; omega) ?_)
  intro va3 vc3 w8 S9
  clear S8
  go_wp2_with (at_builtin; refine wpList_append_sep rfl _ _ rfl S9 0 rfl rfl _ _ rfl ((S9.row 3 rfl).sees') (by have := HLM.out; simp; omega) ?_)
  intro va4 vc4 w9 S10
  clear S9
  go_wp2_with (at_builtin; refine wpList_append_sep rfl _ _ rfl S10 0 rfl rfl _ _ rfl ((S10.row 2 rfl).sees') (by have := HLM.out; simp; omega) ?_)
  intro va5 vc5 w10 S11
  clear S10
  have FT := Lib.hid (madeM_fit g)
  obtain ⟨Hm, hHm⟩ : ∃ Hm, madeM g = Hm := ⟨_, rfl⟩
  have HO := Lib.hid (outs_none g)
  rw [hHm] at S11 FT HO
  clear hHm
  have C12 := Lib.hid (S11.reachedN 4 rfl FT.out (by omega) _ L ((S11.row 3 rfl).sees') (by have := HLM.out; omega))
  clear S11
  go_wp2_with fail
  refine C12.out.mono ?_
  rintro e w12 ⟨rv, rfl, S12⟩
  obtain ⟨rva, rvc, rfl⟩ := (S12.row 0 rfl).form
  have C13 := Lib.hid (S12.reachedN 5 rfl FT.out (by omega) _ M ((S12.row 3 rfl).sees') (by have := HLM.out; omega))
  clear C12 S12
  go_wp2_with fail
  refine C13.out.mono ?_
  rintro e w13 ⟨qv, rfl, S13⟩
  obtain ⟨qva, qvc, rfl⟩ := (S13.row 0 rfl).form
  have C14 := Lib.hid (S13.reachedN 6 rfl FT.out (by omega) _ (L ++ M) ((S13.row 3 rfl).sees') (by have := HLM.out; simp; omega))
  clear C13 S13
  go_wp2_with fail
  refine C14.out.mono ?_
  rintro e w14 ⟨tv, rfl, S14⟩
  obtain ⟨tva, tvc, rfl⟩ := (S14.row 0 rfl).form
  have C15 := Lib.hid (S14.garbageN 7 rfl FT.out (by omega) _ L ((S14.row 6 rfl).sees') (by have := HLM.out; omega))
  clear C14 S14
  go_wp2_with fail
  refine C15.out.mono ?_
  rintro e w15 ⟨xv, rfl, S15⟩
  obtain ⟨xva, xvc, rfl⟩ := (S15.row 0 rfl).form
  have C16 := Lib.hid (S15.garbageN 8 rfl FT.out (by omega) _ (L ++ M) ((S15.row 5 rfl).sees') (by have := HLM.out; simp; omega))
  clear C15 S15
  go_wp2_with fail
  refine C16.out.mono ?_
  rintro e w16 ⟨yv, rfl, S16⟩
  obtain ⟨yva, yvc, rfl⟩ := (S16.row 0 rfl).form
  have FA : Hid ((∀ n ∈ Hm.reachedM (L ++ M), n ∈ Hm.reachedM L ∨ n ∈ Hm.reachedM M) ∧ (∀ n ∈ Hm.reachedM L, n ∈ Hm.reachedM (L ++ M)) ∧ (∀ n ∈ Hm.garbageM (L ++ M), n ∈ Hm.garbageM L) ∧ Hm.reachedM (M ++ (L ++ M)) = Hm.reachedM (L ++ M) ∧ Hm.garbageM (M ++ (L ++ M)) = Hm.garbageM (L ++ M) ∧ Hm.reachedM [] = []) := Lib.hid ⟨fun n hn => by
      rw [HeapM.mem_reached] at hn ⊢
      rw [HeapM.mem_reached]
      exact HeapM.R_append.1 hn, fun n hn => by
      rw [HeapM.mem_reached] at hn ⊢
      exact HeapM.R_append.2 (.inl hn), fun n hn => by
      rw [HeapM.mem_garbage FT.out.G] at hn ⊢
      exact ⟨hn.1, fun h => hn.2.1 (HeapM.R_append.2 (.inl h)), hn.2.2⟩, (HeapM.reached_congr fun n _ => turned_cnt L M n).symm, (HeapM.garbage_congr fun n _ => turned_cnt L M n).symm, HeapM.reached_none fun n _ => by simp [cnt_nil]⟩
  have OK := Lib.hid (And.intro (HeapM.reached_ok FT.out.G (by omega) (L ++ M)) (HeapM.garbage_ok FT.out.G (by omega) (L ++ M)))
  have LN := Lib.hid (And.intro (HeapM.reached_len FT.out.G L) (And.intro (HeapM.reached_len FT.out.G (L ++ M)) (HeapM.garbage_len FT.out.G (L ++ M))))
  clear C16 HG HS HBX
  obtain ⟨R1, hR1⟩ : ∃ R, Hm.reachedM L = R := ⟨_, rfl⟩
  obtain ⟨R2, hR2⟩ : ∃ R, Hm.reachedM M = R := ⟨_, rfl⟩
  obtain ⟨T, hT⟩ : ∃ R, Hm.reachedM (L ++ M) = R := ⟨_, rfl⟩
  obtain ⟨X, hX⟩ : ∃ R, Hm.garbageM L = R := ⟨_, rfl⟩
  obtain ⟨Y, hY⟩ : ∃ R, Hm.garbageM (L ++ M) = R := ⟨_, rfl⟩
  obtain ⟨U, hU⟩ : ∃ U, M ++ (L ++ M) = U := ⟨_, rfl⟩
  rw [hR1, hR2, hT, hX, hY, hU] at S16
  rw [hR1, hR2, hT, hX, hY, hU] at FA
  rw [hT, hY] at OK
  rw [hR1, hT, hY] at LN
  rw [hR1, hR2, hT, hX, hY]
  have HU : Hid (U.length ≤ 36) := Lib.hid (by have := HLM.out; rw [← hU]; simp; omega)
  have eU : M.length + L.length + M.length = U.length := by rw [← hU]; simp; omega
  rw [eU] at S16 ⊢
  clear hR1 hR2 hT hX hY hU eU
  obtain ⟨base, hbase⟩ : ∃ base, base = [numsR (.slice yva Y.length yvc) Y, numsR (.slice xva X.length xvc) X, numsR (.slice tva T.length tvc) T, numsR (.slice qva R2.length qvc) R2, numsR (.slice rva R1.length rvc) R1, valsR (.slice va5 U.length vc5) U, valsR (.slice va2 (L.length + M.length) vc2) (L ++ M), valsR (.slice ma M.length mc) M, valsR (.slice la L.length lc) L, heapR h Hm, boxR bx (.cells #[.slice ka g.kinds.length kc, .slice ea g.edges.length ec, .slice da g.held.length dc] 28)] := ⟨_, rfl⟩
  rw [← hbase] at S16
  have HB : Hid ((base[0]? = some (numsR (.slice yva Y.length yvc) Y) ∧ base[1]? = some (numsR (.slice xva X.length xvc) X) ∧ base[2]? = some (numsR (.slice tva T.length tvc) T)) ∧ (base[3]? = some (numsR (.slice qva R2.length qvc) R2) ∧ base[4]? = some (numsR (.slice rva R1.length rvc) R1)) ∧ base[5]? = some (valsR (.slice va5 U.length vc5) U) ∧ base[9]? = some (heapR h Hm)) := Lib.hid (by subst hbase; exact ⟨⟨rfl, rfl, rfl⟩, ⟨rfl, rfl⟩, rfl, rfl⟩)
  clear hbase
  have SS := Lib.hid S16
  clear S16
  have hlT : (T.length : Int) ≤ 100 := by have := LN.out.2.1; omega
  have hlR : (R1.length : Int) ≤ 100 := by have := LN.out.1; omega
  have hlY : (Y.length : Int) ≤ 100 := by have := LN.out.2.2; omega
  go_wp2
  go_loopw [17] (fun i wr => ∃ k : Nat, k ≤ T.length ∧ i = .int .i64 k ∧ Sep w base wr) (fun i _ => T.length - (intOf i).toNat)
  case atStart => exact ⟨0, by omega, rfl, SS.out⟩
  case round =>
    clear SS
    obtain ⟨k, hk, rfl, S17⟩ := hrel
    by_cases hlt : k < T.length
    · have hlti : (k : Int) < T.length := by omega
      obtain ⟨n, hn⟩ : ∃ n, T[k]? = some n := ⟨T[k], by simp [hlt]⟩
      obtain ⟨tb, rfl⟩ := S17.numAddr 2 HB.out.1.2.2 hlt
      have cn := S17.numCell 2 HB.out.1.2.2 hn
      have I1 := S17.inN 4 HB.out.2.1.2 n
      have hmem := FA.out.1 n (List.mem_of_getElem? hn)
      by_cases h1 : n ∈ R1
      · rw [show decide (n ∈ R1) = true by simpa using h1] at I1
        replace I1 := Lib.hid I1
        clear hmem h1 S17
        go_wp2_with fail
        refine I1.out.mono ?_
        rintro e w18 ⟨rfl, S18⟩
        replace S18 := Lib.hid S18
        clear I1
        go_wp2
        exact ⟨⟨k + 1, by omega, by go_num, S18.out⟩, by simp [intOf]; omega⟩
      · have h2 := hmem.resolve_left h1
        rw [show decide (n ∈ R1) = false by simpa using h1] at I1
        replace I1 := Lib.hid I1
        clear hmem h1 S17
        go_wp2_with fail
        refine I1.out.mono ?_
        rintro e w18 ⟨rfl, S18⟩
        have cn2 := S18.numCell 2 HB.out.1.2.2 hn
        have I2 := S18.inN 3 HB.out.2.1.1 n
        rw [show decide (n ∈ R2) = true by simpa using h2] at I2
        replace I2 := Lib.hid I2
        clear I1 cn S18 h2
        go_wp2_with fail
        refine I2.out.mono ?_
        rintro e w19 ⟨rfl, S19⟩
        replace S19 := Lib.hid S19
        clear I2
        go_wp2
        exact ⟨⟨k + 1, by omega, by go_num, S19.out⟩, by simp [intOf]; omega⟩
    · have hlti : ¬ (k : Int) < T.length := by omega
      replace S17 := Lib.hid S17
      clear hlt
      go_wp2
      go_loopw [18] (fun i wr => ∃ k : Nat, k ≤ R1.length ∧ i = .int .i64 k ∧ Sep w base wr) (fun i _ => R1.length - (intOf i).toNat)
      case atStart => exact ⟨0, by omega, rfl, S17.out⟩
      case round =>
        clear S17
        obtain ⟨k, hk, rfl, S17⟩ := hrel
        by_cases hlt : k < R1.length
        · have hlti : (k : Int) < R1.length := by omega
          obtain ⟨n, hn⟩ : ∃ n, R1[k]? = some n := ⟨R1[k], by simp [hlt]⟩
          obtain ⟨tb, rfl⟩ := S17.numAddr 4 HB.out.2.1.2 hlt
          have cn := S17.numCell 4 HB.out.2.1.2 hn
          have I1 := S17.inN 2 HB.out.1.2.2 n
          rw [show decide (n ∈ T) = true by simpa using FA.out.2.1 n (List.mem_of_getElem? hn)] at I1
          replace I1 := Lib.hid I1
          clear S17
          go_wp2_with fail
          refine I1.out.mono ?_
          rintro e w18 ⟨rfl, S18⟩
          replace S18 := Lib.hid S18
          clear I1
          go_wp2
          exact ⟨⟨k + 1, by omega, by go_num, S18.out⟩, by simp [intOf]; omega⟩
        · have hlti : ¬ (k : Int) < R1.length := by omega
          replace S17 := Lib.hid S17
          clear hlt
          go_wp2
          go_loopw [19] (fun i wr => ∃ k : Nat, k ≤ Y.length ∧ i = .int .i64 k ∧ Sep w base wr) (fun i _ => Y.length - (intOf i).toNat)
          case atStart => exact ⟨0, by omega, rfl, S17.out⟩
          case round =>
            clear S17
            obtain ⟨k, hk, rfl, S17⟩ := hrel
            by_cases hlt : k < Y.length
            · have hlti : (k : Int) < Y.length := by omega
              obtain ⟨n, hn⟩ : ∃ n, Y[k]? = some n := ⟨Y[k], by simp [hlt]⟩
              obtain ⟨tb, rfl⟩ := S17.numAddr 0 HB.out.1.1 hlt
              have cn := S17.numCell 0 HB.out.1.1 hn
              have I1 := S17.inN 1 HB.out.1.2.1 n
              rw [show decide (n ∈ X) = true by simpa using FA.out.2.2.1 n (List.mem_of_getElem? hn)] at I1
              replace I1 := Lib.hid I1
              clear S17
              go_wp2_with fail
              refine I1.out.mono ?_
              rintro e w18 ⟨rfl, S18⟩
              replace S18 := Lib.hid S18
              clear I1
              go_wp2
              exact ⟨⟨k + 1, by omega, by go_num, S18.out⟩, by simp [intOf]; omega⟩
            · have hlti : ¬ (k : Int) < Y.length := by omega
              replace S17 := Lib.hid S17
              clear hlt
              have C := S17.out.reachedN 9 HB.out.2.2.2 FT.out (by omega) _ U ((S17.out.row 5 HB.out.2.2.1).sees') (by have := HU.out; omega)
              rw [FA.out.2.2.2.1] at C
              replace C := Lib.hid C
              clear S17
              go_wp2_with fail
              refine C.out.mono ?_
              rintro e w20 ⟨v20, rfl, S20⟩
              have C2 := S20.sameN 3 0 (by simpa using HB.out.1.2.2) rfl OK.out.1 OK.out.1
              rw [show decide (T = T) = true by simp] at C2
              replace C2 := Lib.hid C2
              clear C S20
              go_wp2_with fail
              refine C2.out.mono ?_
              rintro e w21 ⟨rfl, S21⟩
              replace S21 := S21.tail
              have C := S21.garbageN 9 HB.out.2.2.2 FT.out (by omega) _ U ((S21.row 5 HB.out.2.2.1).sees') (by have := HU.out; omega)
              rw [FA.out.2.2.2.2.1] at C
              replace C := Lib.hid C
              clear S21 C2
              go_wp2_with fail
              refine C.out.mono ?_
              rintro e w22 ⟨v22, rfl, S22⟩
              have C2 := S22.sameN 1 0 (by simpa using HB.out.1.1) rfl OK.out.2 OK.out.2
              rw [show decide (Y = Y) = true by simp] at C2
              replace C2 := Lib.hid C2
              clear C S22
              go_wp2_with fail
              refine C2.out.mono ?_
              rintro e w23 ⟨rfl, S23⟩
              replace S23 := S23.tail
              have C := S23.reachedN 9 HB.out.2.2.2 FT.out (by omega) (.slice none 0 0) [] (sees_none _) (by simp)
              rw [FA.out.2.2.2.2.2] at C
              replace C := Lib.hid C
              clear S23 C2
              go_wp2_with fail
              refine C.out.mono ?_
              rintro e w24 ⟨v24, rfl, S24⟩
              obtain ⟨va24, vc24, rfl⟩ := (S24.row 0 rfl).form
              replace S24 := S24.tail
              have C2 := Lib.hid (S24.refN 0)
              clear C S24
              go_wp2_with fail
              refine C2.out.mono ?_
              rintro e w25 ⟨rfl, S25⟩
              have C := Lib.hid (S25.refN (-1))
              clear C2 S25
              go_wp2_with fail
              refine C.out.mono ?_
              rintro e w26 ⟨rfl, S26⟩
              have C2 := Lib.hid (S26.refN 99)
              clear C S26
              go_wp2_with fail
              refine C2.out.mono ?_
              rintro e w27 ⟨rfl, S27⟩
              have S28 := S27.alloc (.cells #[.int .i64 0, .int .i64 0, .string ⟨#[]⟩, .int .i64 4, .int .i64 0, .string ⟨#[]⟩, .int .i64 4, .int .i64 (-1), .string ⟨#[]⟩, .int .i64 4, .int .i64 99, .string ⟨#[]⟩] 41)
              have C := S28.reachedN 10 (by simpa using HB.out.2.2.2) FT.out (by omega) _ outs (sees_outs (S28.box 0 rfl)) (by simp [outs])
              rw [HO.out] at C
              replace C := Lib.hid C
              clear C2 S27 S28
              go_wp2_with fail
              refine C.out.mono ?_
              rintro e w29 ⟨v29, rfl, S29⟩
              obtain ⟨va29, vc29, rfl⟩ := (S29.row 0 rfl).form
              have B := Lib.hid S29.below
              clear C S29
              go_wp2
              exact bodyPost_ret (v := .bool true) (by simp [results, Try.results7, go_sem]) rfl ⟨rfl, B.out⟩
set_option maxRecDepth 100000 in
theorem lifted (os : Os) (started : os.Started) (H : Type) (enc : TypeId × Value → H) :
    ReturnsInHanded {} Try.checked os 7 .any (Rows.collectMoreSpec.pre6 enc Try.prog Try.f7 Rows.collectMoreRow.domain false) (Rows.collectMoreSpec.post enc Try.prog Try.f7 false true false false) := by
  refine law_lift (C := Try.checked) own started (by kernel_rfl) Try.func7
    (ChangeSpec.witness6 (enc := enc) (C := Try.checked) false ⟨#[], #[.agg #[.slice none 0 0, .slice none 0 0, .slice none 0 0], .slice none 0 0], []⟩ 8 (by kernel_rfl) (by kernel_rfl) (by kernel_rfl) (by kernel_rfl))
    (by kernel_rfl) (by kernel_rfl) rfl (fun ds h => by
      match ds, h with
      | [d1, d2], _ => exact ⟨rfl, rfl, rfl⟩) rfl Try.underlying4 ?_
  intro W base args ds ps hval hA hlt hwt hsh
  rw [Try.params7] at hA hval
  obtain ⟨v0, vs0, d0, ds0, p0, q0, hargs, rfl, rfl, h0, r0⟩ := trodAll_cons hA
  obtain ⟨v1, vs1, d1, ds1, p1, q1, rfl, rfl, rfl, h1, r1⟩ := trodAll_cons r0
  obtain ⟨rfl, rfl, rfl⟩ := trodAll_nil r1
  obtain rfl : args = #[v0, v1] := by cases args; simp_all
  obtain ⟨cs0, rfl, hsz0⟩ := okWide_struct Try.underlying28 (hval 0 28 v0 rfl rfl)
  obtain ⟨fuel0, hf0⟩ := h0
  obtain ⟨kv0, ev0, hv0, gr0, e0, sg0⟩ := open_graph (cs := cs0.toList) hf0
  obtain rfl : cs0 = [kv0, ev0, hv0].toArray := by rw [← e0]
  obtain ⟨x1, len1, cap1, rfl⟩ := okWide_slice Try.underlying22 (hval 1 22 v1 rfl rfl)
  obtain ⟨fuel1, hf1⟩ := h1
  obtain ⟨l1, s1⟩ := open_bytes (v := .slice x1 len1 cap1) hf1
  -- WALK
  exact walk W _ _ _ _ gr0 l1 sg0 s1
theorem proved : Rows.CollectMoreSaid :=
  OpenClaim.holds_of_wide 7 Try.f7 rfl rfl rfl rfl rfl rfl rfl ⟨rfl, rfl, rfl, rfl, rfl⟩ rfl rfl rfl rfl rfl (by kernel_rfl) Try.func7 (by kernel_rfl)
    (of_decide_eq_true (by kernel_rfl)) (by unfold Func.isWrapper; first | (rw [if_pos (by decide +kernel)]; kernel_rfl) | (rw [if_neg (by decide +kernel)]; exact ⟨rfl, rfl⟩))
    (fun os started H enc _ => lifted os started H enc)
#print axioms proved
end Go.Proofs.Ytjinabglachglaa.collectMore
