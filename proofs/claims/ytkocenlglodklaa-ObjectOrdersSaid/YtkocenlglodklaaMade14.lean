/- ch 14's classes: the walk. -/
import Derived.Test.YtkocenlglodklaaKeys
import Derived.Test.YtkocenlglodklaaLawA
import Derived.Test.YtkocenlglodklaaShowB
import Derived.Deep.RegionHeld3
namespace Go.Proofs.Ytkocenlglodklaa
set_option linter.unusedSimpArgs false
open Go.RowKit
set_option linter.unusedVariables false
set_option maxRecDepth 100000 in
theorem run_names {k : Nat} (hk : k < 4) (W : World) : (Instr.index 39 namesV (.int .i64 k)).run Try.prog W = .ok (.string (nameK k)) W := by
  match k, hk with
  | 0, _ => go_simp; rfl
  | 1, _ => go_simp; rfl
  | 2, _ => go_simp; rfl
  | 3, _ => go_simp; rfl
section
variable {w W : World} {Rs : List Res}
abbrev someB (b : Nat) (sB sH : Value) : Res := boxR b (.cells #[sB, sH] 25)
set_option maxRecDepth 100000 in
set_option maxHeartbeats 12800000 in
theorem classes_ok (S : Sep w Rs W) (ba : Option Addr) (bc : Nat) (svs : List SlV) (rows : List (List Int)) (ha : Option Addr) (hc : Nat) (has : List Int)
    (h1 : ∀ W', Below w.heap.size w W' → SeesR slCellN 1 W' (.slice ba svs.length bc) svs) (h2 : RowsIn (fun W' => Below w.heap.size w W') svs rows) (h3 : ∀ W', Below w.heap.size w W' → SeesN W' (.slice ha has.length hc) has) :
    Calls Try.prog 12 #[.agg #[.slice ba svs.length bc, .slice ha has.length hc]] W fun e W' => ∃ (h : Nat) (ov : Value) (H : HeapM) (out : List V), e = .returned (.tuple #[.pointer (some ⟨h, 0, none⟩), ov]) ∧ MInv H out 12 ∧ H.NamesOnly ∧ Sep w (valsR ov out :: heapR h H :: Rs) W' := by
  obtain ⟨b, hb⟩ : ∃ gx_, (W.heap.size) = gx_ := ⟨_, rfl⟩
  have S1 := S.alloc (.cells #[.slice ba svs.length bc, .slice ha has.length hc] 25)
  rw [hb] at S1
  have N0 := Lib.hid S1.new
  have hsl : (svs.length : Int) ≤ 9223372036854775807 := by
    obtain ⟨_, _, e, q1, q2, _⟩ := h1 W S.below
    unfold maxLen at q2; omega
  have hhl : (has.length : Int) ≤ 9223372036854775807 := by
    obtain ⟨_, _, e, q1, q2, _⟩ := h3 W S.below
    unfold maxLen at q2; omega
  have HIN := Lib.hid (And.intro h1 (And.intro h2 h3))
  clear S S1 h1 h2 h3
  go_enter Try.func12, Try.ntmps12
  go_wp2_with fail
  try rw [hb]
  refine N0.out.mono ?_
  rintro e w1 ⟨h, rfl, S2, -⟩
  have S3 := S2.madeRow V.cells 3 33
  obtain ⟨b2, hb2⟩ : ∃ gx_, (w1.heap.size) = gx_ := ⟨_, rfl⟩
  rw [hb2] at S3
  have S4 : Hid (Sep w (valsR (.slice (some ⟨b2, 0, none⟩) 0 0) [] :: heapR h ⟨[], 0⟩ :: someB b (.slice ba svs.length bc) (.slice ha has.length hc) :: Rs) (w1.alloc (.cells #[] 33))) := Lib.hid S3
  clear N0 S2 S3 hb
  go_wp2
  try rw [hb2]
  clear hb2
  go_loopw [5, 6] (fun ov iv wr => ∃ (i : Nat) (H : HeapM) (out : List V), i ≤ 12 ∧ iv = .int .i64 i ∧ MInv H out i ∧ H.NamesOnly ∧ Sep w (valsR ov out :: heapR h H :: someB b (.slice ba svs.length bc) (.slice ha has.length hc) :: Rs) wr) (fun _ iv _ => 12 - (intOf iv).toNat)
  case atStart => exact ⟨0, _, [], by omega, rfl, MInv.empty, names_empty, S4.out⟩
  case round =>
    clear S4
    obtain ⟨i, H, out, hi12, rfl, M, MK, S5⟩ := hrel
    have cB := cellAt (S5.box (b := b) 2 rfl) 0 (v := .slice ba svs.length bc) rfl
    have cH := cellAt (S5.box (b := b) 2 rfl) 1 (v := .slice ha has.length hc) rfl
    have hi12' : (i : Int) ≤ 12 := by omega
    obtain ⟨oa, oc, hov⟩ := (S5.row 0 rfl).form
    rw [hov] at S5 ⊢
    clear hov
    have HM := Lib.hid M
    by_cases hgo : i < svs.length ∧ i < 12
    · obtain ⟨hgo1, hgo2⟩ := hgo
      have g1 : (i : Int) < svs.length := by omega
      have g2 : (i : Int) < 12 := by omega
      have hlast := M.last
      have hn : okI (H.last + 1) := okI_of ⟨by omega, by omega⟩
      have C1 := S5.make 1 rfl M.fit.G (by omega) dictO (.slice none 0 0) (seesV_nil _) (by simp [dictO]) rfl (by simp [dictO]) (by simp [dictO])
      replace C1 : Hid (Calls Try.prog 19 #[.pointer (some ⟨h, 0, none⟩), .int .i64 3, .string ⟨#[]⟩, .int .i64 0, .slice none 0 0] wr fun e W' => e = .returned (.agg #[.int .i64 4, .int .i64 (H.last + 1), .string ⟨#[]⟩]) ∧ Sep w (valsR (.slice oa out.length oc) out :: heapR h (H.add dictO) :: someB b (.slice ba svs.length bc) (.slice ha has.length hc) :: Rs) W') := Lib.hid C1
      have MD := M.dict hn
      have MDK := Lib.hid (names_add MK dictO (by simp [dictO]))
      obtain ⟨sp, hsp⟩ : ∃ gx_, (V.ref (H.last + 1) hn) = gx_ := ⟨_, rfl⟩
      rw [hsp] at MD
      have e1 : Value.agg #[.int .i64 4, .int .i64 (H.last + 1), .string ⟨#[]⟩] = .agg #[.int .i64 sp.kind, .int .i64 sp.n, .string sp.s] := by rw [← hsp]; rfl
      rw [e1] at C1
      have HI := Lib.hid (And.intro hi12 (And.intro hgo1 hgo2))
      have HMD := Lib.hid MD
      clear M S5 hi12 hgo1 hgo2 hlast hn MD e1 hsp HM
      obtain ⟨H1, hH1⟩ : ∃ gx_, (H.add dictO) = gx_ := ⟨_, rfl⟩
      rw [hH1] at C1 HMD MDK
      clear hH1 MK
      go_wp2_with fail
      refine C1.out.mono ?_
      rintro e w2 ⟨rfl, S6⟩
      clear C1 cB cH
      obtain ⟨q, hq⟩ : ∃ gx_, (w2.heap.size) = gx_ := ⟨_, rfl⟩
      have S7 := S6.alloc (.cells #[.int .i64 sp.kind, .int .i64 sp.n, .string sp.s] 33)
      rw [hq] at S7
      replace S7 := Lib.hid S7
      clear S6
      go_wp2
      try rw [hq]
      clear hq
      go_loopw [8] (fun kv wr => ∃ (k : Nat) (H2 : HeapM), k ≤ 4 ∧ kv = .int .i64 k ∧ MMid H2 out i k sp ∧ H2.NamesOnly ∧ Sep w (valB q sp :: valsR (.slice oa out.length oc) out :: heapR h H2 :: someB b (.slice ba svs.length bc) (.slice ha has.length hc) :: Rs) wr) (fun kv _ => 4 - (intOf kv).toNat)
      case atStart => exact ⟨0, H1, by omega, rfl, HMD.out, MDK.out, S7.out⟩
      case round =>
        clear S7
        obtain ⟨k, H2, hk4, rfl, M2, M2K, S8⟩ := hrel
        have HM2K := Lib.hid M2K
        clear M2K MDK
        have cH := cellAt (S8.box (b := b) 3 rfl) 1 (v := .slice ha has.length hc) rfl
        have hk4' : (k : Int) ≤ 4 := by omega
        by_cases hk : k < 4
        · have hkl : (k : Int) < 4 := by omega
          by_cases hih : i < has.length
          · have hihl : (i : Int) < has.length := by omega
            obtain ⟨x, hx⟩ : ∃ x, has[i]? = some x := ⟨has[i], by simp [hih]⟩
            obtain ⟨_, _, e0, p1, p2, p3⟩ := HIN.out.2.2 _ S8.below
            cases e0
            obtain ⟨g, o, rfl, hcell⟩ : ∃ g o, ha = some ⟨g, o, none⟩ ∧ ∀ i n, has[i]? = some n → wr.cell? ⟨g, o + i, none⟩ = some (.int .i64 n) := by
              rcases p3 with hh | hh
              · subst hh; simp at hih
              · exact hh
            have cx := hcell i x hx
            have hk0 : (0 : Int) ≤ k := by omega
            have hk64 : (k : Int) ≤ 64 := by omega
            have HK := Lib.hid (And.intro hk (And.intro hk4 M2))
            cases hbit : (bits .and .i64 (x / 2 ^ k) 1 == 1) with
            | false =>
              replace S8 := Lib.hid S8
              clear hcell hx p1 p2 p3 hih M2 hk4 hk
              go_wp2
              refine ⟨⟨k + 1, H2, by have := HK.out.1; omega, by go_num, HK.out.2.2.skip, HM2K.out, S8.out⟩, by have := HK.out.1; simp [intOf]; omega⟩
            | true =>
              have hxo : okI (10 * (i : Int) + k) := okI_of ⟨by omega, by omega⟩
              obtain ⟨y, hy⟩ : ∃ y : V, y = ⟨2, 10 * (i : Int) + k, ⟨#[]⟩, by decide, hxo, by decide⟩ := ⟨_, rfl⟩
              have M3 := M2.put hk (keyS (nameK k) (nameK_le k)) y (by rw [hy])
              obtain ⟨baseA, hA⟩ : ∃ base, base = valB q sp :: valsR (.slice oa out.length oc) out :: heapR h H2 :: someB b (.slice ba svs.length bc) (.slice (some ⟨g, o, none⟩) has.length hc) :: Rs := ⟨_, rfl⟩
              obtain ⟨baseB, hB⟩ : ∃ base, base = valB q sp :: valsR (.slice oa out.length oc) out :: heapR h (H2.put sp (keyS (nameK k) (nameK_le k)) y) :: someB b (.slice ba svs.length bc) (.slice (some ⟨g, o, none⟩) has.length hc) :: Rs := ⟨_, rfl⟩
              replace S8 : Sep w baseA wr := by rw [hA]; exact S8
              have HB2 := Lib.hid hB
              have KNA : Hid (∀ W (Q : List Res), Sep w (Q ++ baseA) W → Calls Try.prog 17 #[] W fun e W' => e = .returned namesV ∧ Sep w (Q ++ baseA) W') := Lib.hid fun W Q T => (names_ok W).mono fun e W' ⟨e1, e2⟩ => ⟨e1, T.later e2⟩
              have KST : Hid (∀ W (Q : List Res), Sep w (Q ++ baseA) W → Calls Try.prog 36 #[.string (nameK k)] W fun e W' => e = .returned (.agg #[.int .i64 3, .int .i64 0, .string (nameK k)]) ∧ Sep w (Q ++ baseA) W') := Lib.hid fun W Q T => (str_ok W _).mono fun e W' ⟨e1, e2⟩ => ⟨e1, T.later e2⟩
              have KNU : Hid (∀ W (Q : List Res), Sep w (Q ++ baseA) W → Calls Try.prog 29 #[.int .i64 (10 * (i : Int) + k)] W fun e W' => e = .returned (.agg #[.int .i64 2, .int .i64 (10 * (i : Int) + k), .string ⟨#[]⟩]) ∧ Sep w (Q ++ baseA) W') := Lib.hid fun W Q T => (num_ok W _).mono fun e W' ⟨e1, e2⟩ => ⟨e1, T.later e2⟩
              have KPU : Hid (∀ W (Q : List Res), Sep w (Q ++ baseA) W → Calls Try.prog 31 #[.pointer (some ⟨h, 0, none⟩), .agg #[.int .i64 sp.kind, .int .i64 sp.n, .string sp.s], .agg #[.int .i64 3, .int .i64 0, .string (nameK k)], .agg #[.int .i64 2, .int .i64 (10 * (i : Int) + k), .string ⟨#[]⟩]] W fun e W' => e = .returned (.bool (H2.canPut sp (keyS (nameK k) (nameK_le k)))) ∧ Sep w (Q ++ baseB) W') := Lib.hid fun W Q T => by
                rw [hA] at T
                have := T.put (Q.length + 2) (by rw [List.getElem?_append_right (by omega), Nat.add_sub_cancel_left]; rfl) sp (keyS (nameK k) (nameK_le k)) y
                rw [List.set_append_right _ _ (by omega), Nat.add_sub_cancel_left] at this
                rw [hB]
                rw [hy] at this ⊢
                exact this
              have KA : Hid (∀ W (Q : List Res), Sep w (Q ++ baseA) W → W.cell? ⟨q, 0, none⟩ = some (.int .i64 sp.kind) ∧ W.cell? ⟨q, 1, none⟩ = some (.int .i64 sp.n) ∧ W.cell? ⟨q, 2, none⟩ = some (.string sp.s)) := Lib.hid fun W Q T => by
                rw [hA] at T
                have h1 := T.box (b := q) (o := .cells #[.int .i64 sp.kind, .int .i64 sp.n, .string sp.s] 33) Q.length (by simp)
                exact ⟨cellAt h1 0 rfl, cellAt h1 1 rfl, cellAt h1 2 rfl⟩
              have KB : Hid (∀ W (Q : List Res), Sep w (Q ++ baseB) W → W.cell? ⟨q, 0, none⟩ = some (.int .i64 sp.kind) ∧ W.cell? ⟨q, 1, none⟩ = some (.int .i64 sp.n) ∧ W.cell? ⟨q, 2, none⟩ = some (.string sp.s)) := Lib.hid fun W Q T => by
                rw [hB] at T
                have h1 := T.box (b := q) (o := .cells #[.int .i64 sp.kind, .int .i64 sp.n, .string sp.s] 33) Q.length (by simp)
                exact ⟨cellAt h1 0 rfl, cellAt h1 1 rfl, cellAt h1 2 rfl⟩
              have HNM : ∀ W, (Instr.index 39 namesV (.int .i64 k)).run Try.prog W = .ok (.string (nameK k)) W := run_names hk
              have hw1 : IntKind.wrap .i64 (10 * (i : Int)) = 10 * (i : Int) := IntWalk.i64_in _ (by omega)
              have hw2 : IntKind.wrap .i64 (10 * (i : Int) + k) = 10 * (i : Int) + k := IntWalk.i64_in _ (by omega)
              have HM3 := Lib.hid M3
              have HM3K := Lib.hid (names_put HM2K.out sp k y)
              replace S8 := Lib.hid S8
              obtain ⟨cp, hcp⟩ : ∃ gx_, (H2.canPut sp (keyS (nameK k) (nameK_le k))) = gx_ := ⟨_, rfl⟩
              rw [hcp] at KPU
              obtain ⟨H3, hH3⟩ : ∃ gx_, (H2.put sp (keyS (nameK k) (nameK_le k)) y) = gx_ := ⟨_, rfl⟩
              rw [hH3] at HB2 HM3 HM3K
              clear hcell hx p1 p2 p3 hih M2 hk4 hk hA hB hcp hH3 hy M3 hxo
              go_upto_region 11 with fail
              have T0 : Sep w ([] ++ baseA) _ := S8.out.drew
              clear S8 cH cx
              refine wp_region_held_drew (S := fun W => W.cell? ⟨q, 0, none⟩ = some (.int .i64 sp.kind) ∧ W.cell? ⟨q, 1, none⟩ = some (.int .i64 sp.n) ∧ W.cell? ⟨q, 2, none⟩ = some (.string sp.s)) (by kernel_rfl) (KA.out _ [] T0) (fun hH => ?_)
              refine takeT 0 hH (hy := .inl ⟨by rfl, by (intro w hSw; try obtain ⟨u0, u1, u2⟩ := hSw); (go_simp; try rfl)⟩) (h := ?_)
              simp only [Act.put, List.setIfInBounds_toArray, List.set_cons_zero, List.set_cons_succ]
              refine takeT 1 hH (hy := .inl ⟨by rfl, by (intro w hSw; try obtain ⟨u0, u1, u2⟩ := hSw); (go_simp; try rfl)⟩) (h := ?_)
              simp only [Act.put, List.setIfInBounds_toArray, List.set_cons_zero, List.set_cons_succ]
              refine takeT 3 hH (hy := .inl ⟨by rfl, by (intro w hSw; try obtain ⟨u0, u1, u2⟩ := hSw); (go_simp; try rfl)⟩) (h := ?_)
              simp only [Act.put, List.setIfInBounds_toArray, List.set_cons_zero, List.set_cons_succ]
              refine takeT 6 hH (hy := .inl ⟨by rfl, by (intro w hSw; try obtain ⟨u0, u1, u2⟩ := hSw); (go_simp; try rfl)⟩) (h := ?_)
              simp only [Act.put, List.setIfInBounds_toArray, List.set_cons_zero, List.set_cons_succ]
              refine takeT 7 hH (hy := .inl ⟨by rfl, by (intro w hSw; try obtain ⟨u0, u1, u2⟩ := hSw); (go_simp; try rfl)⟩) (h := ?_)
              simp only [Act.put, List.setIfInBounds_toArray, List.set_cons_zero, List.set_cons_succ]
              refine takeT 8 hH (hy := .inl ⟨by rfl, by (intro w hSw; try obtain ⟨u0, u1, u2⟩ := hSw); (go_simp; try rfl)⟩) (h := ?_)
              simp only [Act.put, List.setIfInBounds_toArray, List.set_cons_zero, List.set_cons_succ]
              refine takeT 9 hH (hy := .inl ⟨by rfl, by (intro w hSw; try obtain ⟨u0, u1, u2⟩ := hSw); (go_simp; try rfl)⟩) (h := ?_)
              simp only [Act.put, List.setIfInBounds_toArray, List.set_cons_zero, List.set_cons_succ]
              refine readyT [2] ?_
              refine consT (fun K hK => ?_) AllReadyH.nil
              go_simp
              go_wp2_with (go_at_call 17; refine (KNA.out _ [] T0).mono ?_; rintro e w1 ⟨rfl, T1⟩)
              clear hH
              refine hK.out _ _ (KA.out _ [] T1) (fun hH => ?_)
              clear hK K
              refine takeT 4 hH (hy := .inl ⟨by rfl, by (intro w hSw; try obtain ⟨u0, u1, u2⟩ := hSw); (go_simp; try rfl)⟩) (h := ?_)
              simp only [Act.put, List.setIfInBounds_toArray, List.set_cons_zero, List.set_cons_succ]
              refine readyT [5] ?_
              refine consT (fun K hK => ?_) AllReadyH.nil
              go_simp
              go_wp2_with (go_at_call 36; refine (KST.out _ [] T1).mono ?_; rintro e w2 ⟨rfl, T2⟩)
              clear hH
              refine hK.out _ _ (KA.out _ [] T2) (fun hH => ?_)
              clear hK K
              refine readyT [10] ?_
              refine consT (fun K hK => ?_) AllReadyH.nil
              go_simp
              go_wp2_with (go_at_call 29; refine (KNU.out _ [] T2).mono ?_; rintro e w3 ⟨rfl, T3⟩)
              clear hH
              refine hK.out _ _ (KA.out _ [] T3) (fun hH => ?_)
              clear hK K
              refine readyT [11] ?_
              refine consT (fun K hK => ?_) AllReadyH.nil
              go_simp
              go_wp2_with (go_at_call 31; refine (KPU.out _ [] T3).mono ?_; rintro e w4 ⟨rfl, T4⟩)
              clear hH
              refine hK.out _ _ (KB.out _ [] T4) (fun hH => ?_)
              clear hK K
              refine wpAnyH_done (by kernel_rfl) ?_ _
              as_aux_lemma =>
                have S9 : Hid (Sep w (valB q sp :: valsR (.slice oa out.length oc) out :: heapR h H3 :: someB b (.slice ba svs.length bc) (.slice (some ⟨g, o, none⟩) has.length hc) :: Rs) _) := Lib.hid (by rw [← HB2.out]; exact T4)
                clear KNA KST KNU KPU KA KB HNM
                go_wp2
                refine ⟨⟨k + 1, H3, by have := HK.out.1; omega, by go_num, HM3.out, HM3K.out, S9.out⟩, by have := HK.out.1; simp [intOf]; omega⟩
          · have hihl : (has.length : Int) ≤ i := by omega
            have HK := Lib.hid (And.intro hk (And.intro hk4 M2))
            replace S8 := Lib.hid S8
            clear hih M2 hk4 hk
            go_wp2
            refine ⟨⟨k + 1, H2, by have := HK.out.1; omega, by go_num, HK.out.2.2.skip, HM2K.out, S8.out⟩, by have := HK.out.1; simp [intOf]; omega⟩
        · obtain rfl : k = 4 := by omega
          rw [show ((4 : Nat) : Int) = 4 from rfl]
          have HM2 := Lib.hid M2
          replace S8 := Lib.hid S8
          clear M2 hk4 hk hk4' cH
          -- the bases
          have S9 := S8.out.madeRow V.cells 3 33
          obtain ⟨bb, hbb⟩ : ∃ gx_, (wr.heap.size) = gx_ := ⟨_, rfl⟩
          rw [hbb] at S9
          replace S9 : Hid (Sep w (valsR (.slice (some ⟨bb, 0, none⟩) 0 0) [] :: valB q sp :: valsR (.slice oa out.length oc) out :: heapR h H2 :: someB b (.slice ba svs.length bc) (.slice ha has.length hc) :: Rs) (wr.alloc (.cells #[] 33))) := Lib.hid S9
          have hgi := HI.out.2.1
          obtain ⟨sv, hsv⟩ : ∃ sv, svs[i]? = some sv := ⟨svs[i], by simp [hgi]⟩
          obtain ⟨r, hr⟩ : ∃ r, rows[i]? = some r := ⟨rows[i]'(by rw [← HIN.out.2.1.1]; exact hgi), by simp⟩
          have HRW : Hid (∀ W', Below w.heap.size w W' → SeesN W' sv.val r) := Lib.hid (HIN.out.2.1.2 i sv r hsv hr)
          obtain ⟨ra, rn, rc⟩ := sv
          have hrn : rn = r.length := by
            obtain ⟨_, _, e, _⟩ := HRW.out _ S8.out.below
            cases e; rfl
          subst hrn
          have hrl : (r.length : Int) ≤ 9223372036854775807 := by
            obtain ⟨_, _, e, q1, q2, _⟩ := HRW.out _ S8.out.below
            unfold maxLen at q2; omega
          obtain ⟨g0, o0, hba⟩ : ∃ g0 o0, ba = some ⟨g0, o0, none⟩ := by
            obtain ⟨p, cap, e, _, _, hh⟩ := HIN.out.1 _ S8.out.below
            cases e
            rcases hh with hh | ⟨g0, o0, hh, _⟩
            · subst hh; simp at hgi
            · exact ⟨g0, o0, hh⟩
          subst hba
          have CB : Hid (∀ W', Below w.heap.size w W' → W'.cell? ⟨g0, o0 + i, none⟩ = some (.slice ra r.length rc)) := Lib.hid fun W' hW => by
            obtain ⟨p, cap, e, _, _, hh⟩ := HIN.out.1 _ hW
            cases e
            rcases hh with hh | ⟨g1, o1, hh, hcl⟩
            · subst hh; simp at hgi
            · cases hh
              have := hcl i _ hsv 0 (.slice ra r.length rc) rfl
              simpa using this
          clear S8 hsv hr hgi
          go_wp2
          try rw [hbb]
          clear hbb
          go_loopw [9, 10] (fun bv jv wr => ∃ (j : Nat) (bs : List V), j ≤ 4 ∧ jv = .int .i64 j ∧ bs.length ≤ j ∧ (∀ c ∈ bs, c = c.asRef) ∧ Sep w (valsR bv bs :: valB q sp :: valsR (.slice oa out.length oc) out :: heapR h H2 :: someB b (.slice (some ⟨g0, o0, none⟩) svs.length bc) (.slice ha has.length hc) :: Rs) wr) (fun _ jv _ => 4 - (intOf jv).toNat)
          case atStart => exact ⟨0, [], by omega, rfl, by simp, by simp, S9.out⟩
          case round =>
            clear S9
            obtain ⟨j, bs, hj4, rfl, hbl, hbr, S10⟩ := hrel
            obtain ⟨ya, yc, hbv⟩ := (S10.row 0 rfl).form
            rw [hbv] at S10 ⊢
            clear hbv
            have cB := cellAt (S10.box (b := b) 4 rfl) 0 (v := .slice (some ⟨g0, o0, none⟩) svs.length bc) rfl
            have cR := CB.out _ S10.below
            have hj4' : (j : Int) ≤ 4 := by omega
            have hil : (i : Int) < svs.length := by have := HI.out.2.1; omega
            have hol : (out.length : Int) ≤ 9223372036854775807 := by have := HM2.out.len; omega
            obtain ⟨c, hc'⟩ : ∃ gx_, (decide (j < r.length ∧ j < 4 ∧ 0 < out.length)) = gx_ := ⟨_, rfl⟩
            have HC := Lib.hid hc'
            have HJ := Lib.hid (And.intro hj4 (And.intro hbl hbr))
            clear hj4 hbl hbr hc'
            have HS10 := Lib.hid S10
            clear S10
            go_upto_region 14 with fail
            go_cut [82] from 66 to 97 (fun s82 wx => s82 = .bool c ∧ wx = wr)
            case first =>
              have HC' := HC.out
              by_cases a1 : j < r.length
              · have b1 : (j : Int) < r.length := by omega
                by_cases a2 : j < 4
                · have b2 : (j : Int) < 4 := by omega
                  by_cases a3 : 0 < out.length
                  · have b3 : (0 : Int) < out.length := by omega
                    obtain rfl : c = true := by rw [← HC']; simp [a1, a2, a3]
                    clear a1 a2 HC' HC
                    go_wp2_with fail
                    go_meet
                    exact ⟨rfl, rfl⟩
                  · have b3 : out.length = 0 := by omega
                    obtain rfl : c = false := by rw [← HC']; simp [b3]
                    have b4 : (out.length : Int) ≤ 0 := by omega
                    clear a1 a2 a3 HC' HC
                    go_wp2_with fail
                    go_meet
                    exact ⟨rfl, rfl⟩
                · have b2 : (4 : Int) ≤ j := by omega
                  obtain rfl : c = false := by rw [← HC']; simp [a2]
                  clear a1 a2 HC' HC
                  go_wp2_with fail
                  go_meet
                  exact ⟨rfl, rfl⟩
              · have b1 : (r.length : Int) ≤ j := by omega
                obtain rfl : c = false := by rw [← HC']; simp [a1]
                clear a1 HC' HC
                go_wp2_with fail
                go_meet
                exact ⟨rfl, rfl⟩
            case rest =>
              obtain ⟨rfl, rfl⟩ := hcut
              cases c with
              | true =>
                obtain ⟨a1, a2, a3⟩ := of_decide_eq_true HC.out
                obtain ⟨x, hx⟩ : ∃ x, r[j]? = some x := ⟨r[j], by simp [a1]⟩
                obtain ⟨_, _, e0, p1, p2, p3⟩ := HRW.out _ HS10.out.below
                cases e0
                obtain ⟨g, o, rfl, hcell⟩ : ∃ g o, ra = some ⟨g, o, none⟩ ∧ ∀ i n, r[i]? = some n → wc.cell? ⟨g, o + i, none⟩ = some (.int .i64 n) := by
                  rcases p3 with hh | hh
                  · subst hh; simp at a1
                  · exact hh
                have cx := hcell j x hx
                have b1 : (j : Int) < r.length := by omega
                have C := Lib.hid (pick_ok _ _ out x (HS10.out.row 2 rfl).sees')
                have hmem := HM2.out.mem _ (pickV_mem (List.length_pos_iff.1 a3) x)
                obtain ⟨p, hp⟩ : ∃ gx_, (pickV out x) = gx_ := ⟨_, rfl⟩
                rw [hp] at C hmem
                have HP := Lib.hid (And.intro a2 hmem.2)
                clear a1 a2 a3 hx hcell p1 p2 p3 hmem hp
                go_wp2_with fail
                refine C.out.mono ?_
                rintro e w5 ⟨rfl, B5⟩
                have S11 := (HS10.out.later B5).alloc (.cells #[.int .i64 p.kind, .int .i64 p.n, .string p.s] 33)
                have hone := Lib.hid (sees_one (f := V.cells) (m := 3) (y := p) (heapAllocNew w5 (.cells #[.int .i64 p.kind, .int .i64 p.n, .string p.s] 33)) rfl)
                replace S11 := Lib.hid S11
                clear C B5 cx cR cB HS10
                simp only [V.val]
                go_wp2_with (at_builtin; refine wpList_append_rows rfl _ _ 29 33 rfl Try.underlying29 _ 32 info_val rfl (by decide) (by decide) V.cells_len (by intro p u hu; simp [V.cells] at hu; rcases hu with rfl | rfl | rfl <;> rfl) S11.out 1 rfl rfl _ [p] rfl hone.out (by have := HJ.out.2.1; have := HJ.out.1; simp; omega) ?_)
                intro va vc w6 S12
                have S13 := Lib.hid (Sep.tail S12)
                clear S11 S12 hone
                go_wp2
                refine ⟨⟨j + 1, bs ++ [p], by have := HP.out.1; omega, by go_num, by have := HJ.out.2.1; simp; omega, fun c hc => ?_, S13.out⟩, by have := HP.out.1; simp [intOf]; omega⟩
                rcases List.mem_append.1 hc with hh | hh
                · exact HJ.out.2.2 c hh
                · simp at hh; subst hh; exact HP.out.2
              | false =>
                have C := class_ok HS10.out 3 rfl HM2.out.fit ⟨#[67]⟩ (by decide) ya yc bs (fun W' T => (T.row 0 rfl).sees') sp (by
                  have h1 := HJ.out.2.1
                  have h2 := HJ.out.1
                  have h3 := HI.out.1
                  have h4 : bs.length * (60 * i + 2 + 4 + 2) ≤ 4 * 800 := Nat.mul_le_mul (by omega) (by omega)
                  omega)
                have cQ0 := cellAt (HS10.out.box (b := q) 1 rfl) 0 (v := .int .i64 sp.kind) rfl
                have cQ1 := cellAt (HS10.out.box (b := q) 1 rfl) 1 (v := .int .i64 sp.n) rfl
                have cQ2 := cellAt (HS10.out.box (b := q) 1 rfl) 2 (v := .string sp.s) rfl
                simp only [V.val] at C
                replace C := Lib.hid C
                clear HS10 cR cB hil
                go_wp2_with fail
                refine C.out.mono ?_
                rintro e w5 hdone
                clear C cQ0 cQ1 cQ2
                obtain ⟨R, hR⟩ : ∃ gx_, (H2.mkClass ⟨#[67]⟩ (by decide) bs sp) = gx_ := ⟨_, rfl⟩
                have HR := Lib.hid hR
                cases R with
                | none =>
                  simp only [ClassDone, hR] at hdone
                  obtain ⟨rfl, S11⟩ := hdone
                  have S12 := (S11.alloc (.cells #[.int .i64 0, .int .i64 0, .string ⟨#[]⟩] 33)).alloc (.cells #[.string typeError, .int .i64 0, .int .i64 0, .string ⟨#[]⟩, .bool false] 45)
                  have S13 : Hid (Sep w (valsR (.slice oa out.length oc) out :: heapR h H2 :: someB b (.slice (some ⟨g0, o0, none⟩) svs.length bc) (.slice ha has.length hc) :: Rs) _) := Lib.hid S12.tail.tail.tail.tail
                  have MN := Lib.hid (HM2.out.no (by omega))
                  clear S11 S12 hR
                  go_wp2
                  refine ⟨⟨i + 1, H2, out, by have := HI.out.2.2; omega, by go_num, MN.out, HM2K.out, S13.out⟩, by have := HI.out.2.2; simp [intOf]; omega⟩
                | some H3 =>
                  simp only [ClassDone, hR] at hdone
                  obtain ⟨rfl, S11⟩ := hdone
                  replace S11 : Sep w (valsR (.slice ya bs.length yc) bs :: valB q sp :: valsR (.slice oa out.length oc) out :: heapR h H3 :: someB b (.slice (some ⟨g0, o0, none⟩) svs.length bc) (.slice ha has.length hc) :: Rs) w5 := S11
                  have hl := HM2.out.last
                  have hi2 := HI.out.2.2
                  have hn : okI (H2.last + 1) := okI_of ⟨by omega, by omega⟩
                  have MN := Lib.hid (HM2.out.yes HI.out.2.2 (by omega) HJ.out.2.2 hR hn)
                  have MNK := Lib.hid (names_mk HM2K.out hR)
                  have S12 := ((S11.alloc (.cells #[.int .i64 4, .int .i64 (H2.last + 1), .string ⟨#[]⟩] 33)).alloc (.cells #[.string ⟨#[]⟩, .int .i64 0, .int .i64 0, .string ⟨#[]⟩, .bool false] 45)).alloc (.cells #[.int .i64 4, .int .i64 (H2.last + 1), .string ⟨#[]⟩] 33)
                  have hone := Lib.hid (sees_one (f := V.cells) (m := 3) (y := V.ref (H2.last + 1) hn) (heapAllocNew ((w5.alloc (.cells #[.int .i64 4, .int .i64 (H2.last + 1), .string ⟨#[]⟩] 33)).alloc (.cells #[.string ⟨#[]⟩, .int .i64 0, .int .i64 0, .string ⟨#[]⟩, .bool false] 45)) (.cells #[.int .i64 4, .int .i64 (H2.last + 1), .string ⟨#[]⟩] 33)) rfl)
                  simp only [World.size_alloc] at hone
                  have HLN := Lib.hid HM2.out.len
                  replace S12 := Lib.hid S12
                  clear S11 hR hl hi2
                  go_wp2_with (at_builtin; refine wpList_append_rows rfl _ _ 29 33 rfl Try.underlying29 _ 32 info_val rfl (by decide) (by decide) V.cells_len (by intro p u hu; simp [V.cells] at hu; rcases hu with rfl | rfl | rfl <;> rfl) S12.out 5 rfl rfl _ [V.ref (H2.last + 1) hn] rfl hone.out (by have := HLN.out; have := HI.out.1; simp; omega) ?_)
                  intro va vc w6 S13
                  have S14 : Hid (Sep w (valsR (.slice va (out.length + 1) vc) (out ++ [V.ref (H2.last + 1) hn]) :: heapR h H3 :: someB b (.slice (some ⟨g0, o0, none⟩) svs.length bc) (.slice ha has.length hc) :: Rs) w6) := Lib.hid S13.tail.tail.tail.tail.tail
                  clear S12 S13 hone
                  go_wp2
                  refine ⟨⟨i + 1, H3, out ++ [V.ref (H2.last + 1) hn], by have := HI.out.2.2; omega, by go_num, MN.out, MNK.out, S14.out⟩, by have := HI.out.2.2; simp [intOf]; omega⟩
    · by_cases a1 : i < svs.length
      · have b1 : (i : Int) < svs.length := by omega
        have b2 : (12 : Int) ≤ i := by omega
        clear a1
        have MN := Lib.hid (M.more hi12)
        have MNK := Lib.hid MK
        replace S5 : Hid (Sep w (valsR (.slice oa out.length oc) out :: heapR h H :: Rs) wr) := Lib.hid (S5.sub (.cons_cons _ (.cons_cons _ (.cons _ (List.Sublist.refl _)))))
        clear M MK hgo hi12 HM
        go_wp2
        exact bodyPost_ret (v := .tuple #[.pointer (some ⟨h, 0, none⟩), .slice oa out.length oc]) (by simp [results, Try.results12, go_sem]) rfl ⟨h, _, H, out, rfl, MN.out, MNK.out, S5.out⟩
      · have b1 : (svs.length : Int) ≤ i := by omega
        clear a1
        have MN := Lib.hid (M.more hi12)
        have MNK := Lib.hid MK
        replace S5 : Hid (Sep w (valsR (.slice oa out.length oc) out :: heapR h H :: Rs) wr) := Lib.hid (S5.sub (.cons_cons _ (.cons_cons _ (.cons _ (List.Sublist.refl _)))))
        clear M MK hgo hi12 HM
        go_wp2
        exact bodyPost_ret (v := .tuple #[.pointer (some ⟨h, 0, none⟩), .slice oa out.length oc]) (by simp [results, Try.results12, go_sem]) rfl ⟨h, _, H, out, rfl, MN.out, MNK.out, S5.out⟩
end
end Go.Proofs.Ytkocenlglodklaa
