/- The law's wire and own. -/
import Derived.Test.YtjinabglachglaaPartsM
namespace Go.Proofs.Ytjinabglachglaa
set_option linter.unusedSimpArgs false
open Go.RowKit
set_option linter.unusedVariables false
theorem wrap_node {b n : Nat} (a : Nat) (hb : b ≤ 12) (h1 : 1 ≤ n) (h2 : n ≤ 12) : ∃ q m : Int, (b : Int) + (a : Int) % n = q ∧ 1 + q = m ∧ wrap64 ((b : Int) + (a : Int) % n) = q ∧ wrap64 (1 + q) = m := by
  have e1 : 0 ≤ (a : Int) % n := Int.emod_nonneg _ (by omega)
  have e2 : (a : Int) % n < n := Int.emod_lt_of_pos _ (by omega)
  generalize (a : Int) % n = r at e1 e2
  exact ⟨_, _, rfl, rfl, wrap64_id _ (by omega), wrap64_id _ (by omega)⟩
theorem node_val {b n a : Nat} {q m : Int} (hb : b ≤ 12) (h1 : 1 ≤ n) (h2 : n ≤ 12) (hq : (b : Int) + (a : Int) % n = q) (hm : 1 + q = m) : (nodeV b (n - 1) a).val = .agg #[.int .i64 4, .int .i64 m, .string ⟨#[]⟩] := by
  have h3 : (n - 1) % 100 + 1 = n := by omega
  have h4 : b % 100 = b := by omega
  have : (nodeV b (n - 1) a).n = m := by
    show 1 + ((b % 100 + a % ((n - 1) % 100 + 1) : Nat) : Int) = m
    rw [h3, h4, ← hm, ← hq, Int.natCast_add, Int.natCast_emod]
  rw [← this]; rfl
theorem key_val {a : Nat} (h : a < 256) : (keyM a).val = .agg #[.int .i64 2, .int .i64 a, .string ⟨#[]⟩] := by
  have : (keyM a).n = a := by show ((a % 256 : Nat) : Int) = a; omega
  rw [← this]; rfl
section
variable {w W : World} {Rs : List Res} {h : Nat} {H : HeapM}
set_option maxRecDepth 100000 in
set_option maxHeartbeats 3200000 in
theorem wire_ok (S : Sep w (heapR h H :: Rs) W) {N : Nat} (F : H.Fit N) (hN : N ≤ 1000) (kv ev hv : Value) (g : GraphM) (hg : SeesG w kv ev hv g) (b : Nat) (hb : b ≤ 12) :
    Calls Try.prog 33 #[.pointer (some ⟨h, 0, none⟩), .agg #[kv, ev, hv], .int .i64 b] W fun e W' => (∃ v, e = .returned v) ∧ Sep w (heapR h (wireM b (manyM g.kinds - 1) H (g.edges.take 40)) :: Rs) W' := by
  have HG := Lib.hid hg
  obtain ⟨ka, kc, rfl, -, -, -⟩ := hg.kinds
  obtain ⟨ea, ec, rfl, -, -, -⟩ := hg.edges
  obtain ⟨da, dc, rfl, -, -, -⟩ := hg.held
  obtain ⟨bx, hbx⟩ : ∃ x, W.heap.size = x := ⟨_, rfl⟩
  have S0 := (S.alloc (.cells #[.slice ka g.kinds.length kc, .slice ea g.edges.length ec, .slice da g.held.length dc] 28)).swap
  rw [hbx] at S0
  have M := Lib.hid (many_ok (W.alloc (.cells #[.slice ka g.kinds.length kc, .slice ea g.edges.length ec, .slice da g.held.length dc] 28)) _ (.slice ea g.edges.length ec) (.slice da g.held.length dc) g.kinds (HG.out.kinds.below S0.below))
  have c0 := cellAt (S0.box 1 rfl) 0 (v := .slice ka g.kinds.length kc) rfl
  have c1 := cellAt (S0.box 1 rfl) 1 (v := .slice ea g.edges.length ec) rfl
  have c2 := cellAt (S0.box 1 rfl) 2 (v := .slice da g.held.length dc) rfl
  have HBX := Lib.hid hbx
  have hbi : (b : Int) ≤ 12 := by omega
  replace S0 := Lib.hid S0
  have HF := Lib.hid (And.intro F hN)
  have hel : (g.edges.length : Int) ≤ 9223372036854775807 := by
    obtain ⟨_, _, _, h1, _⟩ := HG.out.edges
    unfold maxLen at h1; omega
  clear S hg F hN
  go_enter Try.func33, Try.ntmps33
  go_wp2_with fail
  refine (M.out).mono ?_
  rintro e w2 ⟨rfl, b2⟩
  have S3 := S0.out.later b2
  clear S0 b2 M c0 c1 c2 hbx
  have hm := manyM_le g.kinds
  obtain ⟨n, hn⟩ : ∃ x, manyM g.kinds = x := ⟨_, rfl⟩
  rw [hn] at hm ⊢
  have HN := Lib.hid hn
  obtain ⟨hm1, hm2⟩ := hm
  have hni : (n : Int) ≤ 12 := by omega
  replace S3 : Sep w (heapR h (wireM b (n - 1) H (g.edges.take 0)) :: boxR bx (.cells #[.slice ka g.kinds.length kc, .slice ea g.edges.length ec, .slice da g.held.length dc] 28) :: Rs) w2 := S3
  replace S3 := Lib.hid S3
  clear hn
  go_wp2
  go_loopw [7] (fun i wr => ∃ j : Nat, j ≤ g.edges.length ∧ j ≤ 40 ∧ i = .int .i64 j ∧ Sep w (heapR h (wireM b (n - 1) H (g.edges.take j)) :: boxR bx (.cells #[.slice ka g.kinds.length kc, .slice ea g.edges.length ec, .slice da g.held.length dc] 28) :: Rs) wr) (fun i _ => 40 - (intOf i).toNat)
  case atStart => exact ⟨0, by omega, by omega, rfl, S3.out⟩
  case round =>
    clear S3
    obtain ⟨j, hj, hj40, rfl, S6⟩ := hrel
    have c1 := cellAt (S6.box 1 rfl) 1 (v := .slice ea g.edges.length ec) rfl
    have hfit := (wireM_fit (b := b) (m := n - 1) HF.out.1 (g.edges.take j)).more (M := 1040) (by have := HF.out.2; have := List.length_take_le j g.edges; omega)
    by_cases hlt : j < g.edges.length ∧ j < 40
    · have h1 : (j : Int) < g.edges.length := by omega
      have h2 : (j : Int) < 40 := by omega
      obtain ⟨⟨a1, a2, a3⟩, hx⟩ : ∃ x, g.edges[j]? = some x := ⟨g.edges[j]'hlt.1, by simp [hlt.1]⟩
      obtain ⟨_, _, e0, _, hb0, hc⟩ := HG.out.edges
      cases e0
      have hb' := hb0 _ (List.mem_of_getElem? hx)
      have hc2 := hc.resolve_left (fun h => by rw [h] at hlt; simp at hlt)
      obtain ⟨eg, eo, rfl, hcc⟩ := hc2
      obtain ⟨x0, x1, x2⟩ := hcc j _ hx
      have d0 := cellBelow x0 S6.below
      have d1 := cellBelow x1 S6.below
      have d2 := cellBelow x2 S6.below
      simp only at d0 d1 d2 hb'
      obtain ⟨q1, n1, hq1, hn1, hg1, hf1⟩ := wrap_node a1 hb hm1 hm2
      obtain ⟨q2, n2, hq2, hn2, hg2, hf2⟩ := wrap_node a2 hb hm1 hm2
      have v1 := node_val hb hm1 hm2 hq1 hn1
      have v2 := node_val hb hm1 hm2 hq2 hn2
      have v3 := key_val hb'.2.2
      have HV := Lib.hid (And.intro v1 (And.intro v2 v3))
      obtain ⟨bE, hbE⟩ : ∃ x, wr.heap.size = x := ⟨_, rfl⟩
      have S7 := S6.alloc (.cells #[.int .u8 a1, .int .u8 a2, .int .u8 a3] 48)
      rw [hbE] at S7
      replace S7 := Lib.hid S7
      have HX := Lib.hid (And.intro hx hfit)
      clear hb0 hc hcc x0 x1 x2 S6 hn1 hn2 hq1 hq2 v1 v2 v3 hx hfit
      go_wp2_with fail
      refine ((ref_ok _ _)).mono ?_
      rintro e w3 ⟨rfl, b3⟩
      have S8 := S7.out.later b3
      obtain ⟨bF, hbF⟩ : ∃ x, w3.heap.size = x := ⟨_, rfl⟩
      have S9 := S8.alloc (.cells #[.int .i64 4, .int .i64 n1, .string ⟨#[]⟩] 41)
      rw [hbF] at S9
      have f0 := cellAt (S9.box 1 rfl) 0 (v := .int .u8 a1) rfl
      have f1 := cellAt (S9.box 1 rfl) 1 (v := .int .u8 a2) rfl
      have f2 := cellAt (S9.box 1 rfl) 2 (v := .int .u8 a3) rfl
      replace S9 := Lib.hid S9
      clear S7 S8 b3 d0 d1 d2 c1
      go_wp2_with fail
      refine ((ref_ok _ _)).mono ?_
      rintro e w4 ⟨rfl, b4⟩
      have S10 := S9.out.later b4
      clear f0 f1 f2
      obtain ⟨bT, hbT⟩ : ∃ x, w4.heap.size = x := ⟨_, rfl⟩
      have S11 := S10.alloc (.cells #[.int .i64 4, .int .i64 n2, .string ⟨#[]⟩] 41)
      rw [hbT] at S11
      have f2 := cellAt (S11.box 2 rfl) 2 (v := .int .u8 a3) rfl
      have q0 := cellAt (S11.box 0 rfl) 0 (v := .int .i64 4) rfl
      have q1' := cellAt (S11.box 0 rfl) 1 (v := .int .i64 n2) rfl
      have q2' := cellAt (S11.box 0 rfl) 2 (v := .string ⟨#[]⟩) rfl
      have p0 := cellAt (S11.box 1 rfl) 0 (v := .int .i64 4) rfl
      have p1 := cellAt (S11.box 1 rfl) 1 (v := .int .i64 n1) rfl
      have p2 := cellAt (S11.box 1 rfl) 2 (v := .string ⟨#[]⟩) rfl
      replace S11 := Lib.hid S11
      clear S9 S10 b4
      by_cases hodd : a3 % 2 = 1
      · have ho : (bits BinOp.and IntKind.u8 (a3 : Int) 1 == 1) = true := by rw [bits_odd a3 hb'.2.2]; simpa using hodd
        have hnext : wireM b (n - 1) H (g.edges.take (j + 1)) = (wireM b (n - 1) H (g.edges.take j)).put (nodeV b (n - 1) a1) (keyM a3) (nodeV b (n - 1) a2) := by
          rw [List.take_add_one, HX.out.1, Option.toList_some, wireM_snoc]
          unfold edgeM
          rw [if_pos hodd]
        have P1 := S11.out.put 3 rfl (nodeV b (n - 1) a1) (keyM a3) (nodeV b (n - 1) a2)
        rw [HV.out.1, HV.out.2.1, HV.out.2.2, ← hnext] at P1
        replace P1 := Lib.hid P1
        clear S11 hodd hnext
        go_wp2_with fail
        refine (P1.out).mono ?_
        rintro e w5 ⟨rfl, S13⟩
        have S14 := Lib.hid S13.tail.tail.tail
        clear P1 S13 f2 q0 q1' q2' p0 p1 p2
        go_wp2
        exact ⟨⟨j + 1, by omega, by omega, by go_num, S14.out⟩, by simp [intOf]; omega⟩
      · have ho : (bits BinOp.and IntKind.u8 (a3 : Int) 1 == 1) = false := by rw [bits_odd a3 hb'.2.2]; simpa using hodd
        have hnext : wireM b (n - 1) H (g.edges.take (j + 1)) = (wireM b (n - 1) H (g.edges.take j)).replace (nodeV b (n - 1) a1) 0 0 [nodeV b (n - 1) a2] := by
          rw [List.take_add_one, HX.out.1, Option.toList_some, wireM_snoc]
          unfold edgeM
          rw [if_neg hodd]
        have hsees : ∀ {bk : Nat} {W : World}, W.heap[bk]? = some (.cells #[.int .i64 4, .int .i64 n2, .string ⟨#[]⟩] 41) → SeesV W (.slice (some ⟨bk, 0, none⟩) 1 1) [nodeV b (n - 1) a2] := fun hb => by
          have h1 := HV.out.2.1
          unfold V.val at h1
          simp only [Value.agg.injEq, Array.mk.injEq, List.cons.injEq, Value.int.injEq, Value.string.injEq, true_and, and_true] at h1
          exact sees_one _ h1.1 h1.2.1 h1.2.2 hb
        have S12 := S11.out.alloc (.cells #[.int .i64 4, .int .i64 n2, .string ⟨#[]⟩] 41)
        rw [World.size_alloc, hbT] at S12
        have P1 := S12.replace 4 rfl HX.out.2.G (nodeV b (n - 1) a1) 0 0 _ _ (hsees (S12.box 0 rfl)) (by simp)
        rw [HV.out.1, ← hnext] at P1
        replace P1 := Lib.hid P1
        clear S11 S12 hodd hnext hsees
        go_wp2_with fail
        refine (P1.out).mono ?_
        rintro e w5 ⟨rfl, S13⟩
        have S14 := Lib.hid S13.tail.tail.tail.tail
        clear P1 S13 f2 q0 q1' q2' p0 p1 p2
        go_wp2
        exact ⟨⟨j + 1, by omega, by omega, by go_num, S14.out⟩, by simp [intOf]; omega⟩
    · have hend : g.edges.take j = g.edges.take 40 := by
        by_cases h : g.edges.length ≤ 40
        · rw [List.take_of_length_le (by omega), List.take_of_length_le h]
        · rw [show j = 40 by omega]
      rw [hend] at S6
      have S7 := Lib.hid (S6.swap.tail)
      clear S6 hend hfit
      by_cases h1 : j < g.edges.length
      · have h1' : (j : Int) < g.edges.length := by omega
        have h2' : ¬ (j : Int) < 40 := by omega
        clear hlt
        go_wp2
        go_returns
        exact ⟨⟨_, rfl⟩, by rw [HN.out]; exact S7.out⟩
      · have h1' : ¬ (j : Int) < g.edges.length := by omega
        clear hlt
        go_wp2
        go_returns
        exact ⟨⟨_, rfl⟩, by rw [HN.out]; exact S7.out⟩
end
def inOf (n : Nat) (v : V) : Bool := decide (v.kind = 4) && (decide (1 ≤ v.n) && decide (v.n ≤ n))
def ownM (L : List V) (n b : Nat) : List V := (L.filter (inOf n)).map (movV b)
theorem ownM_step {L : List V} {k n b : Nat} {v : V} (h : L[k]? = some v) : ownM (L.take (k + 1)) n b = if inOf n v = true then ownM (L.take k) n b ++ [movV b v] else ownM (L.take k) n b := by
  unfold ownM
  rw [List.take_add_one, h, Option.toList_some, List.filter_append, List.map_append]
  by_cases hv : inOf n v = true
  · rw [if_pos hv, List.filter_cons_of_pos hv]; rfl
  · rw [if_neg hv, List.filter_cons_of_neg hv]; simp
theorem ownM_len (L : List V) (n b : Nat) : (ownM L n b).length ≤ L.length := by
  unfold ownM
  rw [List.length_map]
  exact List.length_filter_le _ _
section
variable {w W : World} {Rs : List Res}
set_option maxRecDepth 100000 in
set_option maxHeartbeats 3200000 in
theorem own_ok (S : Sep w Rs W) (q : Nat) {la : Option Addr} {lc : Nat} {L : List V} (hq : Rs[q]? = some (valsR (.slice la L.length lc) L)) (hL : L.length ≤ 100) (hs : ∀ v ∈ L, v.s = ⟨#[]⟩) (n b : Nat) (hn : n ≤ 100) (hb : b ≤ 100) :
    Calls Try.prog 34 #[.slice la L.length lc, .int .i64 n, .int .i64 b] W fun e W' => ∃ v, e = .returned v ∧ Sep w (valsR v (ownM L n b) :: Rs) W' := by
  have HQ := Lib.hid (And.intro hq hs)
  have hli : (L.length : Int) ≤ 100 := by omega
  have hni : (n : Int) ≤ 100 := by omega
  have hbi : (b : Int) ≤ 100 := by omega
  have S0 := Lib.hid S.madeVals
  clear S hq hs hL hn hb
  go_enter Try.func34, Try.ntmps34
  go_wp2
  go_loopw [7, 8] (fun out i wr => ∃ k : Nat, k ≤ L.length ∧ i = .int .i64 k ∧ Sep w (valsR out (ownM (L.take k) n b) :: Rs) wr) (fun _ i _ => L.length - (intOf i).toNat)
  case atStart => exact ⟨0, by omega, rfl, S0.out⟩
  case round =>
    clear S0
    obtain ⟨k, hk, rfl, S1⟩ := hrel
    obtain ⟨oa, oc, rfl⟩ := (S1.row 0 rfl).form
    have hMl : (ownM (L.take k) n b).length ≤ 100 := by have := ownM_len (L.take k) n b; simp at *; omega
    by_cases hlt : k < L.length
    · have hlti : (k : Int) < L.length := by omega
      obtain ⟨v, hv⟩ : ∃ v, L[k]? = some v := ⟨L[k], by simp [hlt]⟩
      have hnext := ownM_step (n := n) (b := b) hv
      have hvs := HQ.out.2 v (List.mem_of_getElem? hv)
      have hrow := S1.row (q + 1) (by simpa using HQ.out.1)
      obtain ⟨lg, rfl⟩ : ∃ g, la = some ⟨g, 0, none⟩ := by
        rcases hrow.shape with ⟨h1, h2⟩ | ⟨g, cap, h1, _⟩
        · rw [h2] at hlt; simp at hlt
        · exact ⟨g, (Value.slice.inj h1).1⟩
      have x0 := hrow.cell V.cells_len rfl hv (j := 0) (u := .int .i64 v.kind) rfl
      have x1 := hrow.cell V.cells_len rfl hv (j := 1) (u := .int .i64 v.n) rfl
      have x2 := hrow.cell V.cells_len rfl hv (j := 2) (u := .string v.s) rfl
      rw [Nat.add_zero] at x0
      rw [hvs] at x2
      obtain ⟨M, hM⟩ : ∃ x, ownM (L.take k) n b = x := ⟨_, rfl⟩
      rw [hM] at S1 hMl hnext ⊢
      obtain ⟨bv, hbv⟩ : ∃ x, wr.heap.size = x := ⟨_, rfl⟩
      have S2 := S1.alloc (.cells #[.int .i64 v.kind, .int .i64 v.n, .string ⟨#[]⟩] 41)
      rw [hbv] at S2
      have y0 := cellAt (S2.box 0 rfl) 0 (v := .int .i64 v.kind) rfl
      have y1 := cellAt (S2.box 0 rfl) 1 (v := .int .i64 v.n) rfl
      have y2 := cellAt (S2.box 0 rfl) 2 (v := .string ⟨#[]⟩) rfl
      have S3 := S1.alloc (.cells #[.int .i64 v.kind, .int .i64 (v.n + b), .string ⟨#[]⟩] 41)
      rw [hbv] at S3
      replace S3 := Lib.hid S3
      have S2' := Lib.hid S2.tail
      have HX := Lib.hid (And.intro hnext (And.intro hlt hvs))
      clear S1 S2 hrow hnext hvs hM hv hlt
      by_cases h4 : v.kind = 4
      · have b4 : (v.kind == 4) = true := by simpa using h4
        rw [h4] at S2' S3 y0 x0
        have H4 := Lib.hid h4
        by_cases h1 : 1 ≤ v.n
        · by_cases h2 : v.n ≤ n
          · have HY := Lib.hid (show inOf n v = true by simp [inOf]; omega)
            have hok : okI (v.n + b) := okI_of (by omega)
            have hm : movV b v = V.ref (v.n + b) hok := by unfold movV; rw [dif_pos hok]
            have HM := Lib.hid hm
            clear h4 hm S2'
            go_wp2_with (at_builtin; refine wpList_append_sep rfl _ _ rfl (S3.out.alloc (.cells #[.int .i64 4, .int .i64 (v.n + b), .string ⟨#[]⟩] 41)) 2 rfl rfl _ [V.ref (v.n + b) hok] rfl ?sees ?len ?_)
            case sees =>
              have hb := heapAllocNew (wr.alloc (.cells #[.int .i64 4, .int .i64 (v.n + b), .string ⟨#[]⟩] 41)) (.cells #[.int .i64 4, .int .i64 (v.n + b), .string ⟨#[]⟩] 41)
              rw [World.size_alloc, hbv] at hb
              refine sees_one _ ?_ ?_ ?_ hb <;> rfl
            case len => omega
            intro va vc w5 S6
            have S7 := Lib.hid (S6.tail.tail)
            clear S6
            go_wp2
            refine ⟨⟨k + 1, by have := HX.out.2.1; omega, by go_num, ?_⟩, by have := HX.out.2.1; simp [intOf]; omega⟩
            rw [HX.out.1, if_pos HY.out, HM.out]; simpa using S7.out
          · have HN := Lib.hid (show ¬ inOf n v = true by simp [inOf]; omega)
            clear h4
            go_wp2
            exact ⟨⟨k + 1, by have := HX.out.2.1; omega, by go_num, by rw [HX.out.1, if_neg HN.out]; exact S2'.out⟩, by have := HX.out.2.1; simp [intOf]; omega⟩
        · have HN := Lib.hid (show ¬ inOf n v = true by simp [inOf]; omega)
          clear h4
          go_wp2
          exact ⟨⟨k + 1, by have := HX.out.2.1; omega, by go_num, by rw [HX.out.1, if_neg HN.out]; exact S2'.out⟩, by have := HX.out.2.1; simp [intOf]; omega⟩
      · have b4 : (v.kind == 4) = false := by simpa using h4
        have HN := Lib.hid (show ¬ inOf n v = true by simp [inOf]; omega)
        go_wp2
        exact ⟨⟨k + 1, by have := HX.out.2.1; omega, by go_num, by rw [HX.out.1, if_neg HN.out]; exact S2'.out⟩, by have := HX.out.2.1; simp [intOf]; omega⟩
    · have hlti : ¬ (k : Int) < L.length := by omega
      rw [List.take_of_length_le (by omega)] at S1 ⊢
      have S2 := Lib.hid S1
      clear S1 hlt
      go_wp2
      go_ret
      exact ⟨_, rfl, S2.out⟩
end
section
/-- Bytes of one's own. -/
def byteCell (b : Nat) : List Value := [.int .u8 (b : Int)]
abbrev bytesR (v : Value) (l : List Nat) : Res := rowR 5 1 byteCell v l
theorem info_uint8 : (Try.prog.info? 5).map (fun i => (i.zero, i.size, i.bytes)) = some (some (.int .u8 0), 1, 1) := by kernel_rfl
theorem run_append_byte (W : World) (v : Value) (xs : List Nat) (h : slIs W 5 1 byteCell v xs) (g : Nat) (b : Nat) (hc : W.heap[g]? = some (.cells #[.int .u8 (b : Int)] 5)) (hlen : xs.length + 1 ≤ 17592186044416) (ty : TypeId) :
    ∃ va vc w', (Builtin.append_ #[22, 22] ty #[v, .slice (some ⟨g, 0, none⟩) 1 1]).run Try.prog W = .ok (.slice va (xs.length + 1) vc) w' ∧ slIs w' 5 1 byteCell (.slice va (xs.length + 1) vc) (xs ++ [b]) ∧ W.grownBy w' v.ownBlock ∧ ((Value.slice va (xs.length + 1) vc).ownBlock = v.ownBlock ∨ (Value.slice va (xs.length + 1) vc).ownBlock = some W.heap.size) := by
  obtain ⟨i0, hi, iz0, iz1, iz2⟩ := info_parts info_uint8
  obtain ⟨v', w', hrun, hown, hgr, -, hat⟩ := run_append_own_at (P := Try.prog) (w := W) 0 22 ty 5 i0 _ 1 1 Try.underlying22 hi iz0 iz1 iz2 rfl (by decide) v xs.length (xs.flatMap byteCell) h ⟨g, 0, none⟩ 1 1 (byteCell b) rfl
    (news_block hc) (by intro u hu; simp [byteCell] at hu; subst hu; rfl) (Nat.le_trans hlen (by decide)) (by omega) (Nat.zero_le _)
  obtain ⟨va, vc, rfl⟩ := ownsRow_form hown
  refine ⟨va, vc, w', hrun, ⟨flatMap_length byteCell 1 (fun _ => rfl) _, ?_⟩, hgr, hat⟩
  have := hown.2
  rw [List.flatMap_append, List.length_append]
  exact this
end
/-- The kinds of both graphs' objects, and the objects of both. -/
def bothK (a b : List Nat) (n i : Nat) : Nat := ((if i < n then kindM a i else kindM b (i - n)) - 1).toNat
theorem bothK_lt (a b : List Nat) (n i : Nat) : bothK a b n i < 12 := by
  unfold bothK
  split
  · have := kindM_ok a i; omega
  · have := kindM_ok b (i - n); omega
def bothO (a b : List Nat) (n i : Nat) : ObjM := ⟨1 + ((bothK a b n i % 12 : Nat) : Int), ⟨#[120]⟩, 0, [], [], okI_of (by omega), okI_of (by omega), by decide⟩
theorem bothO_ok (a b : List Nat) (n i : Nat) : (1 ≤ (bothO a b n i).kind ∧ (bothO a b n i).kind ≤ 12) ∧ (bothO a b n i).items = [] ∧ (bothO a b n i).pairs = [] := ⟨⟨by show 1 ≤ 1 + ((bothK a b n i % 12 : Nat) : Int); omega, by show 1 + ((bothK a b n i % 12 : Nat) : Int) ≤ 12; omega⟩, rfl, rfl⟩
theorem obj_eq {o o' : ObjM} (h1 : o.kind = o'.kind) (h2 : o.name = o'.name) (h3 : o.num = o'.num) (h4 : o.items = o'.items) (h5 : o.pairs = o'.pairs) : o = o' := by
  cases o; cases o'; simp only at h1 h2 h3 h4 h5; subst h1 h2 h3 h4 h5; rfl
theorem bothO_l (a b : List Nat) {n i : Nat} (h : i < n) : bothO a b n i = movO 0 (objM a i) := by
  refine obj_eq ?_ rfl rfl rfl rfl
  show 1 + ((bothK a b n i % 12 : Nat) : Int) = kindM a i
  unfold bothK
  rw [if_pos h]
  have := kindM_ok a i; omega
theorem bothO_r (a b : List Nat) (n i : Nat) : bothO a b n (n + i) = movO n (objM b i) := by
  refine obj_eq ?_ rfl rfl rfl rfl
  show 1 + ((bothK a b n (n + i) % 12 : Nat) : Int) = kindM b i
  unfold bothK
  rw [if_neg (by omega), show n + i - n = i by omega]
  have := kindM_ok b i; omega
theorem both_base (a b : List Nat) (n m : Nat) : (baseM (bothO a b n) (n + m)).objs = movL 0 (baseG a n).objs ++ movL n (baseG b m).objs := by
  unfold baseG
  rw [baseM_objs, baseM_objs, baseM_objs, List.range_add, List.map_append]
  unfold movL
  rw [List.map_map, List.map_map, List.map_map]
  congr 1
  · refine List.map_congr_left fun i hi => ?_
    simp only [Function.comp, Prod.mk.injEq]
    exact ⟨by simp, bothO_l a b (List.mem_range.1 hi)⟩
  · refine List.map_congr_left fun i hi => ?_
    simp only [Function.comp, Prod.mk.injEq]
    exact ⟨by omega, bothO_r a b n i⟩
/-- Both graphs, made in one heap. -/
def bothM (a b : GraphM) : HeapM := wireM (manyM a.kinds) (manyM b.kinds - 1) (wireM 0 (manyM a.kinds - 1) (baseM (bothO a.kinds b.kinds (manyM a.kinds)) (manyM a.kinds + manyM b.kinds)) (a.edges.take 40)) (b.edges.take 40)
theorem both_join (a b : GraphM) : bothM a b = joinM (madeM a) (madeM b) (manyM a.kinds) := by
  have ha := manyM_le a.kinds
  have hb := manyM_le b.kinds
  unfold bothM madeM madeK
  obtain ⟨n, hn⟩ : ∃ n, manyM a.kinds = n := ⟨_, rfl⟩
  obtain ⟨m, hm⟩ : ∃ m, manyM b.kinds = m := ⟨_, rfl⟩
  rw [hn] at ha ⊢
  rw [hm] at hb ⊢
  have hB : baseM (bothO a.kinds b.kinds n) (n + m) = ⟨[] ++ movL 0 (baseG a.kinds n).objs ++ movL n (baseG b.kinds m).objs, ((n + m : Nat) : Int)⟩ := by
    have h1 := both_base a.kinds b.kinds n m
    have h2 := baseM_last (bothO a.kinds b.kinds n) (n + m)
    obtain ⟨X, hX⟩ : ∃ X, baseM (bothO a.kinds b.kinds n) (n + m) = X := ⟨_, rfl⟩
    rw [hX] at h1 h2 ⊢
    cases X; simp only at h1 h2; subst h1 h2; simp
  have kbase : ∀ (ks : List Nat) (k : Nat), ∀ p ∈ (baseG ks k).objs, 1 ≤ p.1 ∧ p.1 ≤ k := fun ks k p hp => by
    unfold baseG at hp
    rw [baseM_objs] at hp
    obtain ⟨i, hi, rfl⟩ := List.mem_map.1 hp
    have := List.mem_range.1 hi
    exact ⟨by simp; omega, by simp; omega⟩
  rw [hB]
  have w1 := wire_part (A := []) (B := movL n (baseG b.kinds m).objs) (f := 0) (m := n - 1) (last := ((n + m : Nat) : Int)) (by omega) (by simp) (fun p hp k k1 k2 => by
    obtain ⟨q, hq, e⟩ := movL_keys hp
    have := kbase _ _ q hq
    simp; omega) (a.edges.take 40) (baseG a.kinds n)
  rw [w1]
  have kw : ∀ p ∈ (wireM 0 (n - 1) (baseG a.kinds n) (a.edges.take 40)).objs, 1 ≤ p.1 ∧ p.1 ≤ n := fun p hp => by
    have := made_keys a p (by unfold madeM madeK; rw [hn]; exact hp)
    rw [hn] at this; exact this
  have w2 := wire_part (A := [] ++ movL 0 (wireM 0 (n - 1) (baseG a.kinds n) (a.edges.take 40)).objs) (B := []) (f := n) (m := m - 1) (last := ((n + m : Nat) : Int)) (by omega) (fun p hp k k1 k2 => by
    simp only [List.nil_append] at hp
    obtain ⟨q, hq, e⟩ := movL_keys hp
    have := kw q hq
    simp at e; omega) (by simp) (b.edges.take 40) (baseG b.kinds m)
  rw [List.append_nil] at w2
  rw [w2]
  unfold joinM
  rw [wireM_last, wireM_last, List.append_nil, List.nil_append]
  congr 1
  rw [show (baseG a.kinds n).last = (n : Int) from baseM_last _ _, show (baseG b.kinds m).last = (m : Int) from baseM_last _ _]
  omega
theorem both_beside (a b : GraphM) : Beside (madeM a) (madeM b) (manyM a.kinds) (manyM b.kinds - 1) where
  hf := by have := manyM_le a.kinds; omega
  hf0 := by have := manyM_le a.kinds; omega
  hm := by have := manyM_le b.kinds; omega
  kH := made_keys a
  kK := fun p hp => by have := made_keys b p hp; have := manyM_le b.kinds; omega
  nH := nodes_made a
  nK := nodes_made b
theorem both_fit (a b : GraphM) : (bothM a b).Fit 200 := by
  have ha := manyM_le a.kinds
  have hb := manyM_le b.kinds
  have h0 := baseM_fit (bothO a.kinds b.kinds (manyM a.kinds)) (bothO_ok _ _ _) (manyM a.kinds + manyM b.kinds)
  exact (wireM_fit (wireM_fit h0 (a.edges.take 40)) (b.edges.take 40)).more (by have := List.length_take_le 40 a.edges; have := List.length_take_le 40 b.edges; omega)
theorem heldM_s (l : List Nat) : ∀ v ∈ heldM l, v.s = ⟨#[]⟩ := fun v hv => by
  obtain ⟨b, _, rfl⟩ := List.mem_map.1 hv
  unfold heldV
  split <;> rfl
theorem ownM_zero {L : List V} (hs : ∀ v ∈ L, v.s = ⟨#[]⟩) (n : Nat) (hn : n ≤ 100) : ∀ v ∈ ownM L n 0, v.kind = 4 ∧ 1 ≤ v.n ∧ v.n ≤ n := fun v hv => by
  obtain ⟨u, hu, rfl⟩ := List.mem_map.1 hv
  obtain ⟨hu1, hu2⟩ := List.mem_filter.1 hu
  simp only [inOf, Bool.and_eq_true, decide_eq_true_eq] at hu2
  obtain ⟨h1, h2, h3⟩ := hu2
  unfold movV
  rw [dif_pos (okI_of (by omega))]
  exact ⟨rfl, by show 1 ≤ u.n + (0 : Nat); omega, by show u.n + (0 : Nat) ≤ n; omega⟩
theorem movV_movV (u : V) (b : Nat) (hb : b ≤ 100) (h1 : 1 ≤ u.n) (h2 : u.n ≤ 100) : movV b (movV 0 u) = movV b u := by
  have e0 : okI (u.n + (0 : Nat)) := okI_of (by omega)
  have e1 : okI (u.n + b) := okI_of (by omega)
  have e2 : okI ((V.ref (u.n + (0 : Nat)) e0).n + b) := okI_of (by show _ ≤ u.n + (0 : Nat) + b ∧ u.n + (0 : Nat) + b ≤ _; omega)
  unfold movV
  rw [dif_pos e0, dif_pos e1, dif_pos e2]
  have key : ∀ (x y : Int) (hx : okI x) (hy : okI y), x = y → V.ref x hx = V.ref y hy := fun x y hx hy e => by subst e; rfl
  refine key _ _ _ _ ?_
  show u.n + (0 : Nat) + b = u.n + b
  omega
theorem ownM_mov (L : List V) (n b : Nat) (hn : n ≤ 100) (hb : b ≤ 100) : ownM L n b = (ownM L n 0).map (movV b) := by
  unfold ownM
  rw [List.map_map]
  refine List.map_congr_left fun u hu => ?_
  have hu2 := (List.mem_filter.1 hu).2
  simp only [inOf, Bool.and_eq_true, decide_eq_true_eq] at hu2
  exact (movV_movV u b hb (by omega) (by omega)).symm
theorem ownM_self (L : List V) (n : Nat) (hn : n ≤ 100) : ownM L n 0 = (ownM L n 0).map (movV 0) := ownM_mov L n 0 hn (by omega)
/-- The law's three collections. -/
theorem both_collect (a b : GraphM) (E1 E2 : List V) (h1 : HeldIn E1 (manyM a.kinds)) (h2 : HeldIn E2 (manyM b.kinds)) :
    ((bothM a b).collect (E1.map (movV 0) ++ E2.map (movV (manyM a.kinds)))).objs = movL 0 ((madeM a).collect E1).objs ++ movL (manyM a.kinds) ((madeM b).collect E2).objs := by
  rw [both_join]
  have hb := manyM_le b.kinds
  refine (both_beside a b).collect (madeM_fit a).G (madeM_fit b).G (N3 := 200) (by rw [← both_join]; exact (both_fit a b).G) h1 ?_
  rw [show manyM b.kinds - 1 + 1 = manyM b.kinds by omega]; exact h2
theorem both_len (a b : GraphM) : (bothM a b).objs.length = (madeM a).objs.length + (madeM b).objs.length := by
  rw [both_join]; show (movL 0 _ ++ movL _ _).length = _; rw [List.length_append, movL_len, movL_len]
theorem both_live (a b : GraphM) (k : Int) : (bothM a b).live k = (madeM a).live k + (madeM b).live k := by
  rw [both_join]
  show (⟨movL 0 (madeM a).objs ++ movL (manyM a.kinds) (madeM b).objs, _⟩ : HeapM).live k = _
  rw [live_app _ _ _ 0 0, movL_live 0 _ 0 (madeM a).last, movL_live _ _ 0 (madeM b).last]
theorem live_le (H : HeapM) (k : Int) : H.live k ≤ H.objs.length := List.length_filter_le _ _
theorem live_objs {H : HeapM} {l : List (Int × ObjM)} (h : H.objs = l) (k : Int) (a : Int) : H.live k = (⟨l, a⟩ : HeapM).live k := by subst h; rfl
end Go.Proofs.Ytjinabglachglaa
