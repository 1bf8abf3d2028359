/-
  CollectParts: two graphs that do not know of each other are collected as each by itself.
-/
import Derived.Test.YtjinabglachglaaParts
import Derived.Test.YtjinabglachglaaFrame
import Derived.Test.YtjinabglachglaaBytes
namespace Go.Proofs.Ytjinabglachglaa.collectParts
set_option linter.unusedSimpArgs false
open Go.ChangeShapes Go.WideShapes Go.ChangeAt Go.RowKit
set_option linter.unusedVariables false
theorem kindB (a b : List Nat) {n i : Nat} (h : i < n) : kindM a i = (bothK a b n i : Int) + 1 := by
  unfold bothK; rw [if_pos h]; have := kindM_ok a i; omega
theorem kindB' (a b : List Nat) {n i : Nat} (h : ¬ i < n) : kindM b (i - n) = (bothK a b n i : Int) + 1 := by
  unfold bothK; rw [if_neg h]; have := kindM_ok b (i - n); omega
abbrev graphB (ka : Option Addr) (kl kc : Nat) (ea : Option Addr) (el ec : Nat) (da : Option Addr) (dl dc : Nat) : Obj := .cells #[.slice ka kl kc, .slice ea el ec, .slice da dl dc] 28
set_option maxRecDepth 100000 in
set_option maxHeartbeats 6400000 in
theorem walk (w : World) (kv ev hv kv' ev' hv' : Value) (a b : GraphM) (hga : SeesG w kv ev hv a) (hgb : SeesG w kv' ev' hv' b) :
    Calls Try.prog 8 #[.agg #[kv, ev, hv], .agg #[kv', ev', hv']] w fun e W' => e = .returned (.bool true) ∧ Below w.heap.size w W' := by
  have HA := Lib.hid hga
  have HB := Lib.hid hgb
  obtain ⟨ka, kc, rfl, -, -, -⟩ := hga.kinds
  obtain ⟨ea, ec, rfl, -, -, -⟩ := hga.edges
  obtain ⟨da, dc, rfl, -, -, -⟩ := hga.held
  obtain ⟨ka', kc', rfl, -, -, -⟩ := hgb.kinds
  obtain ⟨ea', ec', rfl, -, -, -⟩ := hgb.edges
  obtain ⟨da', dc', rfl, -, -, -⟩ := hgb.held
  obtain ⟨b0, hb0⟩ : ∃ x, w.heap.size = x := ⟨_, rfl⟩
  have S0 := ((Sep.start (Below.refl w.heap.size w)).alloc (graphB ka a.kinds.length kc ea a.edges.length ec da a.held.length dc)).alloc (graphB ka' b.kinds.length kc' ea' b.edges.length ec' da' b.held.length dc')
  have K := Lib.hid (shown_ok ((w.alloc (graphB ka a.kinds.length kc ea a.edges.length ec da a.held.length dc)).alloc (graphB ka' b.kinds.length kc' ea' b.edges.length ec' da' b.held.length dc')))
  rw [World.size_alloc, hb0] at S0
  have HB0 := Lib.hid hb0
  replace S0 := Lib.hid S0
  clear hga hgb
  go_enter Try.func8, Try.ntmps8
  go_wp2_with fail
  refine (K.out).mono ?_
  rintro e w1 ⟨rfl, b1⟩
  have S1 := S0.out.later b1
  have c0 := cellAt (S1.box 1 rfl) 0 (v := .slice ka a.kinds.length kc) rfl
  have c1 := cellAt (S1.box 1 rfl) 1 (v := .slice ea a.edges.length ec) rfl
  have c2 := cellAt (S1.box 1 rfl) 2 (v := .slice da a.held.length dc) rfl
  have C := Lib.hid (graph_ok S1 _ _ _ a HA.out)
  clear S0 S1 K b1 hb0
  go_wp2_with fail
  refine (C.out).mono ?_
  rintro e w2 ⟨h, y, rfl, S2⟩
  replace S2 := S2.tail
  clear c0 c1 c2 C
  have c0 := cellAt (S2.box 1 rfl) 0 (v := .slice ka' b.kinds.length kc') rfl
  have c1 := cellAt (S2.box 1 rfl) 1 (v := .slice ea' b.edges.length ec') rfl
  have c2 := cellAt (S2.box 1 rfl) 2 (v := .slice da' b.held.length dc') rfl
  have C := Lib.hid (graph_ok S2 _ _ _ b HB.out)
  clear S2
  go_wp2_with fail
  refine (C.out).mono ?_
  rintro e w3 ⟨k, y2, rfl, S3⟩
  replace S3 := S3.tail
  clear c0 c1 c2 C
  have c0 := cellAt (S3.box 3 rfl) 0 (v := .slice ka a.kinds.length kc) rfl
  have c1 := cellAt (S3.box 3 rfl) 1 (v := .slice ea a.edges.length ec) rfl
  have c2 := cellAt (S3.box 3 rfl) 2 (v := .slice da a.held.length dc) rfl
  have C := Lib.hid (many_ok w3 _ (.slice ea a.edges.length ec) (.slice da a.held.length dc) a.kinds (HA.out.kinds.below S3.below))
  replace S3 := Lib.hid S3
  go_wp2_with fail
  refine (C.out).mono ?_
  rintro e w4 ⟨rfl, b4⟩
  have S4 := S3.out.later b4
  clear c0 c1 c2 C S3 b4
  have hm := manyM_le a.kinds
  obtain ⟨n, hn⟩ : ∃ x, manyM a.kinds = x := ⟨_, rfl⟩
  rw [hn] at hm
  have HN := Lib.hid hn
  obtain ⟨hn1, hn2⟩ := hm
  have hni : (n : Int) ≤ 12 := by omega
  have c0 := cellAt (S4.box 2 rfl) 0 (v := .slice ka' b.kinds.length kc') rfl
  have c1 := cellAt (S4.box 2 rfl) 1 (v := .slice ea' b.edges.length ec') rfl
  have c2 := cellAt (S4.box 2 rfl) 2 (v := .slice da' b.held.length dc') rfl
  have C := Lib.hid (many_ok w4 _ (.slice ea' b.edges.length ec') (.slice da' b.held.length dc') b.kinds (HB.out.kinds.below S4.below))
  replace S4 := Lib.hid S4
  rw [hn]
  clear hn
  go_wp2_with fail
  refine (C.out).mono ?_
  rintro e w5 ⟨rfl, b5⟩
  have S5 := S4.out.later b5
  clear c0 c1 c2 C S4 b5
  have hm := manyM_le b.kinds
  obtain ⟨m, hm0⟩ : ∃ x, manyM b.kinds = x := ⟨_, rfl⟩
  rw [hm0] at hm ⊢
  have HM := Lib.hid hm0
  obtain ⟨hm1, hm2⟩ := hm
  have hmi : (m : Int) ≤ 12 := by omega
  have S6 := S5.addRow (Below.refl _ _) (e := 5) (m := 1) (f := byteCell) (v := .slice none 0 0) (l := []) (World.ownsRow_nil _ _ _ _) (by simp [Value.ownBlock])
  have S7 := S6.alloc (graphB none 0 0 none 0 0 none 0 0)
  obtain ⟨bB, hbB⟩ : ∃ x, w5.heap.size = x := ⟨_, rfl⟩
  rw [hbB] at S7
  have HX := Lib.hid hbB
  have z0 := frozenAt (S7.box 0 rfl) 0
  replace S7 := Lib.hid S7
  clear S5 S6 hm0
  go_wp2
  clear hbB
  replace S7 : Hid (Sep w (boxR bB (graphB (none) 0 0 none 0 0 none 0 0) :: bytesR (.slice none 0 0) ((List.range 0).map (bothK a.kinds b.kinds n)) :: [heapR k (madeM b), heapR h (madeM a), boxR (b0 + 1) (graphB ka' b.kinds.length kc' ea' b.edges.length ec' da' b.held.length dc'), boxR b0 (graphB ka a.kinds.length kc ea a.edges.length ec da a.held.length dc)]) (w5.alloc (graphB none 0 0 none 0 0 none 0 0))) := S7
  go_loopw [13] (fun iv wr => ∃ i : Nat, i ≤ n + m ∧ iv = .int .i64 i ∧ ∃ va vl vc, Sep w (boxR bB (graphB va vl vc none 0 0 none 0 0) :: bytesR (.slice va vl vc) ((List.range i).map (bothK a.kinds b.kinds n)) :: [heapR k (madeM b), heapR h (madeM a), boxR (b0 + 1) (graphB ka' b.kinds.length kc' ea' b.edges.length ec' da' b.held.length dc'), boxR b0 (graphB ka a.kinds.length kc ea a.edges.length ec da a.held.length dc)]) wr) (fun iv _ => n + m - (intOf iv).toNat)
  case atStart => exact ⟨0, by omega, rfl, none, 0, 0, S7.out⟩
  case round =>
    clear S7
    obtain ⟨i, hi, rfl, va, vl, vc, S8⟩ := hrel
    obtain rfl : i = vl := by have := (S8.row 1 rfl).caps.1; simpa using this.symm
    by_cases hlt : i < n + m
    · have hlti : (i : Int) < n + m := by omega
      have hrow : ((List.range i).map (bothK a.kinds b.kinds n)).length = i := by simp
      have hnext : (List.range (i + 1)).map (bothK a.kinds b.kinds n) = (List.range i).map (bothK a.kinds b.kinds n) ++ [bothK a.kinds b.kinds n i] := by rw [List.range_succ, List.map_append]; rfl
      obtain ⟨l, hl⟩ : ∃ x, (List.range i).map (bothK a.kinds b.kinds n) = x := ⟨_, rfl⟩
      rw [hl] at S8 hrow hnext
      subst hrow
      by_cases hin : l.length < n
      · have hini : (l.length : Int) < n := by omega
        have hpre : True := trivial
        replace S8 := Lib.hid S8
        go_upto_region 11 with fail
        replace S8 := S8.out
        have S9 := S8.drew
        have HS0 : wr.drew.cell? ⟨bB, 0, none⟩ = some (.slice va l.length vc) ∧ wr.drew.cell? ⟨b0, 0, none⟩ = some (.slice ka a.kinds.length kc) ∧ wr.drew.cell? ⟨b0, 1, none⟩ = some (.slice ea a.edges.length ec) ∧ wr.drew.cell? ⟨b0, 2, none⟩ = some (.slice da a.held.length dc) := ⟨cellAt (S9.box 0 rfl) 0 rfl, cellAt (S9.box 5 rfl) 0 rfl, cellAt (S9.box 5 rfl) 1 rfl, cellAt (S9.box 5 rfl) 2 rfl⟩
        have C := kind_ok wr.drew _ (.slice ea a.edges.length ec) (.slice da a.held.length dc) a.kinds (HA.out.kinds.below S9.below) l.length (by omega)
        rw [kindB a.kinds b.kinds hin] at C
        have hkb := bothK_lt a.kinds b.kinds n l.length
        obtain ⟨kb, hkbe⟩ : ∃ x, bothK a.kinds b.kinds n l.length = x := ⟨_, rfl⟩
        rw [hkbe] at C hkb hnext
        have HNX := Lib.hid hnext
        have hkbi : (kb : Int) < 12 := by omega
        have hw1 : IntKind.i64.wrap (kb : Int) = kb := IntWalk.i64_in _ (by omega)
        have hw2 : IntKind.u8.wrap (kb : Int) = kb := IntWalk.u8_in _ (by omega)
        replace S9 := Lib.hid S9
        replace C := Lib.hid C
        clear hkbe S8 hnext hl
        refine wp_regionU 10 (fun w' => w'.cell? ⟨bB, 0, none⟩ = some (.slice va l.length vc) ∧ w'.cell? ⟨b0, 0, none⟩ = some (.slice ka a.kinds.length kc) ∧ w'.cell? ⟨b0, 1, none⟩ = some (.slice ea a.edges.length ec) ∧ w'.cell? ⟨b0, 2, none⟩ = some (.slice da a.held.length dc)) (by kernel_rfl) ?_
        refine wpAnyU_take 0 [] (v := _) (by simp only [List.getElem?_toArray, List.getElem?_cons_succ, List.getElem?_cons_zero]; rfl) (by kernel_rfl) (by kernel_rfl) (by kernel_rfl) (by kernel_rfl) (by kernel_rfl) (by exact fun _ _ _ h => h) (by rfl) (by (intro w hSw; try obtain ⟨s0, s1, s2, s3⟩ := hSw); (go_simp; try rfl)) HS0 ?_
        simp only [Act.put, List.setIfInBounds_toArray, List.set_cons_zero, List.set_cons_succ]
        refine wpAnyU_take 1 [] (v := _) (by simp only [List.getElem?_toArray, List.getElem?_cons_succ, List.getElem?_cons_zero]; rfl) (by kernel_rfl) (by kernel_rfl) (by kernel_rfl) (by kernel_rfl) (by kernel_rfl) (by exact fun _ _ _ h => h) (by rfl) (by (intro w hSw; try obtain ⟨s0, s1, s2, s3⟩ := hSw); (go_simp; try rfl)) HS0 ?_
        simp only [Act.put, List.setIfInBounds_toArray, List.set_cons_zero, List.set_cons_succ]
        refine wpAnyU_take 2 [] (v := _) (by simp only [List.getElem?_toArray, List.getElem?_cons_succ, List.getElem?_cons_zero]; rfl) (by kernel_rfl) (by kernel_rfl) (by kernel_rfl) (by kernel_rfl) (by kernel_rfl) (by exact fun _ _ _ h => h) (by rfl) (by (intro w hSw; try obtain ⟨s0, s1, s2, s3⟩ := hSw); (go_simp; try rfl)) HS0 ?_
        simp only [Act.put, List.setIfInBounds_toArray, List.set_cons_zero, List.set_cons_succ]
        refine wpAnyU_take 3 [] (v := _) (by simp only [List.getElem?_toArray, List.getElem?_cons_succ, List.getElem?_cons_zero]; rfl) (by kernel_rfl) (by kernel_rfl) (by kernel_rfl) (by kernel_rfl) (by kernel_rfl) (by exact fun _ _ _ h => h) (by rfl) (by (intro w hSw; try obtain ⟨s0, s1, s2, s3⟩ := hSw); (go_simp; try rfl)) HS0 ?_
        simp only [Act.put, List.setIfInBounds_toArray, List.set_cons_zero, List.set_cons_succ]
        refine wpAnyU_one 4 (by kernel_rfl) (by simp only [List.getElem?_toArray, List.getElem?_cons_succ, List.getElem?_cons_zero]; rfl) (fun K hK => ?_)
        go_simp
        go_wp2_with (refine C.out.mono ?_; rintro e w8 ⟨rfl, b8⟩)
        have S10 := S9.out.later b8
        have HS1 : w8.cell? ⟨bB, 0, none⟩ = some (.slice va l.length vc) ∧ w8.cell? ⟨b0, 0, none⟩ = some (.slice ka a.kinds.length kc) ∧ w8.cell? ⟨b0, 1, none⟩ = some (.slice ea a.edges.length ec) ∧ w8.cell? ⟨b0, 2, none⟩ = some (.slice da a.held.length dc) := ⟨cellAt (S10.box 0 rfl) 0 rfl, cellAt (S10.box 5 rfl) 0 rfl, cellAt (S10.box 5 rfl) 1 rfl, cellAt (S10.box 5 rfl) 2 rfl⟩
        have S11 := S10.alloc (.cells #[.int .u8 (kb : Int)] 5)
        have HS2 : (w8.alloc (.cells #[.int .u8 (kb : Int)] 5)).cell? ⟨bB, 0, none⟩ = some (.slice va l.length vc) ∧ (w8.alloc (.cells #[.int .u8 (kb : Int)] 5)).cell? ⟨b0, 0, none⟩ = some (.slice ka a.kinds.length kc) ∧ (w8.alloc (.cells #[.int .u8 (kb : Int)] 5)).cell? ⟨b0, 1, none⟩ = some (.slice ea a.edges.length ec) ∧ (w8.alloc (.cells #[.int .u8 (kb : Int)] 5)).cell? ⟨b0, 2, none⟩ = some (.slice da a.held.length dc) := ⟨cellAt (S11.box 1 rfl) 0 rfl, cellAt (S11.box 6 rfl) 0 rfl, cellAt (S11.box 6 rfl) 1 rfl, cellAt (S11.box 6 rfl) 2 rfl⟩
        obtain ⟨va', vc', w9, hap, hsl, hgr, hat⟩ := run_append_byte (w8.alloc (.cells #[.int .u8 (kb : Int)] 5)) _ l (S11.row 2 rfl) _ kb (S11.box 0 rfl) (by omega) 22
        have HAP8 := Lib.hid hap
        have S12 := S11.grown 2 rfl hsl hgr hat
        have HS3 : w9.cell? ⟨bB, 0, none⟩ = some (.slice va l.length vc) ∧ w9.cell? ⟨b0, 0, none⟩ = some (.slice ka a.kinds.length kc) ∧ w9.cell? ⟨b0, 1, none⟩ = some (.slice ea a.edges.length ec) ∧ w9.cell? ⟨b0, 2, none⟩ = some (.slice da a.held.length dc) := ⟨cellAt (S12.box 1 rfl) 0 rfl, cellAt (S12.box 6 rfl) 0 rfl, cellAt (S12.box 6 rfl) 1 rfl, cellAt (S12.box 6 rfl) 2 rfl⟩
        have f0 := frozenAt (S12.box 1 rfl) 0
        have S13 := (S12.setBox (cs := #[.slice va l.length vc, .slice none 0 0, .slice none 0 0]) (t := 28) 1 rfl 0 (.slice va' (l.length + 1) vc')).tail
        replace S13 := Lib.hid S13
        clear S10 S11 S12 hap hsl hgr hat C S9
        refine hK.out _ _ (fun _ => HS1) (fun _ => ?_)
        clear hK K
        refine wpAnyU_take 5 [] (v := _) (by simp only [List.getElem?_toArray, List.getElem?_cons_succ, List.getElem?_cons_zero]; rfl) (by kernel_rfl) (by kernel_rfl) (by kernel_rfl) (by kernel_rfl) (by kernel_rfl) (by exact fun _ _ _ h => h) (by rfl) (by (intro w hSw; try obtain ⟨s0, s1, s2, s3⟩ := hSw); (go_simp; try rfl)) HS1 ?_
        simp only [Act.put, List.setIfInBounds_toArray, List.set_cons_zero, List.set_cons_succ]
        refine wpAnyU_take 6 [] (v := _) (by simp only [List.getElem?_toArray, List.getElem?_cons_succ, List.getElem?_cons_zero]; rfl) (by kernel_rfl) (by kernel_rfl) (by kernel_rfl) (by kernel_rfl) (by kernel_rfl) (by exact fun _ _ _ h => h) (by rfl) (by (intro w hSw; try obtain ⟨s0, s1, s2, s3⟩ := hSw); (go_simp; try rfl)) HS1 ?_
        simp only [Act.put, List.setIfInBounds_toArray, List.set_cons_zero, List.set_cons_succ]
        refine wpAnyU_one 7 (by kernel_rfl) (by simp only [List.getElem?_toArray, List.getElem?_cons_succ, List.getElem?_cons_zero]; rfl) (fun K hK => ?_)
        go_simp
        refine hK.out _ _ (fun _ => HS2) (fun _ => ?_)
        clear hK K
        refine wpAnyU_one 8 (by kernel_rfl) (by simp only [List.getElem?_toArray, List.getElem?_cons_succ, List.getElem?_cons_zero]; rfl) (fun K hK => ?_)
        refine step_append_run (by rfl) _ _ _ (by rfl) (by rfl) (by rfl) HAP8.out ?_
        refine hK.out _ _ (fun _ => HS3) (fun _ => ?_)
        clear hK K
        refine wpAnyU_take 9 [] (v := _) (by simp only [List.getElem?_toArray, List.getElem?_cons_succ, List.getElem?_cons_zero]; rfl) (by kernel_rfl) (by kernel_rfl) (by kernel_rfl) (by kernel_rfl) (by kernel_rfl) (by exact fun _ _ _ h => h) (by rfl) (by (intro w hSw; try obtain ⟨s0, s1, s2, s3⟩ := hSw); (go_simp; try rfl)) HS3 ?_
        simp only [Act.put, List.setIfInBounds_toArray, List.set_cons_zero, List.set_cons_succ]
        refine wpAnyU_one 10 (by kernel_rfl) (by simp only [List.getElem?_toArray, List.getElem?_cons_succ, List.getElem?_cons_zero]; rfl) (fun K hK => ?_)
        go_simp
        refine hK.out _ _ (fun h => absurd rfl h) (fun _ => ?_)
        clear hK K
        refine wpAnyU_done (by kernel_rfl) ?_ _
        go_wp2
        exact ⟨⟨l.length + 1, by omega, by go_num, va', l.length + 1, vc', by rw [HNX.out]; exact S13.out⟩, by simp [intOf]; omega⟩
      · have hini : ¬ (l.length : Int) < n := by omega
        replace S8 := Lib.hid S8
        go_upto_region 12 with fail
        replace S8 := S8.out
        have S9 := S8.drew
        have HS0 : wr.drew.cell? ⟨bB, 0, none⟩ = some (.slice va l.length vc) ∧ wr.drew.cell? ⟨b0 + 1, 0, none⟩ = some (.slice ka' b.kinds.length kc') ∧ wr.drew.cell? ⟨b0 + 1, 1, none⟩ = some (.slice ea' b.edges.length ec') ∧ wr.drew.cell? ⟨b0 + 1, 2, none⟩ = some (.slice da' b.held.length dc') := ⟨cellAt (S9.box 0 rfl) 0 rfl, cellAt (S9.box 4 rfl) 0 rfl, cellAt (S9.box 4 rfl) 1 rfl, cellAt (S9.box 4 rfl) 2 rfl⟩
        have hsub : (l.length : Int) - n = ((l.length - n : Nat) : Int) := by omega
        have C := kind_ok wr.drew _ (.slice ea' b.edges.length ec') (.slice da' b.held.length dc') b.kinds (HB.out.kinds.below S9.below) (l.length - n) (by omega)
        rw [kindB' a.kinds b.kinds hin] at C
        rw [← hsub] at C
        have hw0 : IntKind.i64.wrap ((l.length : Int) - n) = l.length - n := IntWalk.i64_in _ (by omega)
        clear hsub
        have hkb := bothK_lt a.kinds b.kinds n l.length
        obtain ⟨kb, hkbe⟩ : ∃ x, bothK a.kinds b.kinds n l.length = x := ⟨_, rfl⟩
        rw [hkbe] at C hkb hnext
        have HNX := Lib.hid hnext
        have hkbi : (kb : Int) < 12 := by omega
        have hw1 : IntKind.i64.wrap (kb : Int) = kb := IntWalk.i64_in _ (by omega)
        have hw2 : IntKind.u8.wrap (kb : Int) = kb := IntWalk.u8_in _ (by omega)
        replace S9 := Lib.hid S9
        replace C := Lib.hid C
        clear hkbe S8 hnext hl
        refine wp_regionU 12 (fun w' => w'.cell? ⟨bB, 0, none⟩ = some (.slice va l.length vc) ∧ w'.cell? ⟨b0 + 1, 0, none⟩ = some (.slice ka' b.kinds.length kc') ∧ w'.cell? ⟨b0 + 1, 1, none⟩ = some (.slice ea' b.edges.length ec') ∧ w'.cell? ⟨b0 + 1, 2, none⟩ = some (.slice da' b.held.length dc')) (by kernel_rfl) ?_
        refine wpAnyU_take 0 [] (v := _) (by simp only [List.getElem?_toArray, List.getElem?_cons_succ, List.getElem?_cons_zero]; rfl) (by kernel_rfl) (by kernel_rfl) (by kernel_rfl) (by kernel_rfl) (by kernel_rfl) (by exact fun _ _ _ h => h) (by rfl) (by (intro w hSw; try obtain ⟨s0, s1, s2, s3⟩ := hSw); (go_simp; try rfl)) HS0 ?_
        simp only [Act.put, List.setIfInBounds_toArray, List.set_cons_zero, List.set_cons_succ]
        refine wpAnyU_take 1 [] (v := _) (by simp only [List.getElem?_toArray, List.getElem?_cons_succ, List.getElem?_cons_zero]; rfl) (by kernel_rfl) (by kernel_rfl) (by kernel_rfl) (by kernel_rfl) (by kernel_rfl) (by exact fun _ _ _ h => h) (by rfl) (by (intro w hSw; try obtain ⟨s0, s1, s2, s3⟩ := hSw); (go_simp; try rfl)) HS0 ?_
        simp only [Act.put, List.setIfInBounds_toArray, List.set_cons_zero, List.set_cons_succ]
        refine wpAnyU_take 2 [] (v := _) (by simp only [List.getElem?_toArray, List.getElem?_cons_succ, List.getElem?_cons_zero]; rfl) (by kernel_rfl) (by kernel_rfl) (by kernel_rfl) (by kernel_rfl) (by kernel_rfl) (by exact fun _ _ _ h => h) (by rfl) (by (intro w hSw; try obtain ⟨s0, s1, s2, s3⟩ := hSw); (go_simp; try rfl)) HS0 ?_
        simp only [Act.put, List.setIfInBounds_toArray, List.set_cons_zero, List.set_cons_succ]
        refine wpAnyU_take 3 [] (v := _) (by simp only [List.getElem?_toArray, List.getElem?_cons_succ, List.getElem?_cons_zero]; rfl) (by kernel_rfl) (by kernel_rfl) (by kernel_rfl) (by kernel_rfl) (by kernel_rfl) (by exact fun _ _ _ h => h) (by rfl) (by (intro w hSw; try obtain ⟨s0, s1, s2, s3⟩ := hSw); (go_simp; try rfl)) HS0 ?_
        simp only [Act.put, List.setIfInBounds_toArray, List.set_cons_zero, List.set_cons_succ]
        refine wpAnyU_take 4 [] (v := _) (by simp only [List.getElem?_toArray, List.getElem?_cons_succ, List.getElem?_cons_zero]; rfl) (by kernel_rfl) (by kernel_rfl) (by kernel_rfl) (by kernel_rfl) (by kernel_rfl) (by exact fun _ _ _ h => h) (by rfl) (by (intro w hSw; try obtain ⟨s0, s1, s2, s3⟩ := hSw); (go_simp; try rfl)) HS0 ?_
        simp only [Act.put, List.setIfInBounds_toArray, List.set_cons_zero, List.set_cons_succ]
        refine wpAnyU_take 5 [] (v := _) (by simp only [List.getElem?_toArray, List.getElem?_cons_succ, List.getElem?_cons_zero]; rfl) (by kernel_rfl) (by kernel_rfl) (by kernel_rfl) (by kernel_rfl) (by kernel_rfl) (by exact fun _ _ _ h => h) (by rfl) (by (intro w hSw; try obtain ⟨s0, s1, s2, s3⟩ := hSw); (go_simp; try rfl)) HS0 ?_
        simp only [Act.put, List.setIfInBounds_toArray, List.set_cons_zero, List.set_cons_succ]
        refine wpAnyU_one 6 (by kernel_rfl) (by simp only [List.getElem?_toArray, List.getElem?_cons_succ, List.getElem?_cons_zero]; rfl) (fun K hK => ?_)
        go_simp
        go_wp2_with (refine C.out.mono ?_; rintro e w8 ⟨rfl, b8⟩)
        have S10 := S9.out.later b8
        have HS1 : w8.cell? ⟨bB, 0, none⟩ = some (.slice va l.length vc) ∧ w8.cell? ⟨b0 + 1, 0, none⟩ = some (.slice ka' b.kinds.length kc') ∧ w8.cell? ⟨b0 + 1, 1, none⟩ = some (.slice ea' b.edges.length ec') ∧ w8.cell? ⟨b0 + 1, 2, none⟩ = some (.slice da' b.held.length dc') := ⟨cellAt (S10.box 0 rfl) 0 rfl, cellAt (S10.box 4 rfl) 0 rfl, cellAt (S10.box 4 rfl) 1 rfl, cellAt (S10.box 4 rfl) 2 rfl⟩
        have S11 := S10.alloc (.cells #[.int .u8 (kb : Int)] 5)
        have HS2 : (w8.alloc (.cells #[.int .u8 (kb : Int)] 5)).cell? ⟨bB, 0, none⟩ = some (.slice va l.length vc) ∧ (w8.alloc (.cells #[.int .u8 (kb : Int)] 5)).cell? ⟨b0 + 1, 0, none⟩ = some (.slice ka' b.kinds.length kc') ∧ (w8.alloc (.cells #[.int .u8 (kb : Int)] 5)).cell? ⟨b0 + 1, 1, none⟩ = some (.slice ea' b.edges.length ec') ∧ (w8.alloc (.cells #[.int .u8 (kb : Int)] 5)).cell? ⟨b0 + 1, 2, none⟩ = some (.slice da' b.held.length dc') := ⟨cellAt (S11.box 1 rfl) 0 rfl, cellAt (S11.box 5 rfl) 0 rfl, cellAt (S11.box 5 rfl) 1 rfl, cellAt (S11.box 5 rfl) 2 rfl⟩
        obtain ⟨va', vc', w9, hap, hsl, hgr, hat⟩ := run_append_byte (w8.alloc (.cells #[.int .u8 (kb : Int)] 5)) _ l (S11.row 2 rfl) _ kb (S11.box 0 rfl) (by omega) 22
        have HAP8 := Lib.hid hap
        have S12 := S11.grown 2 rfl hsl hgr hat
        have HS3 : w9.cell? ⟨bB, 0, none⟩ = some (.slice va l.length vc) ∧ w9.cell? ⟨b0 + 1, 0, none⟩ = some (.slice ka' b.kinds.length kc') ∧ w9.cell? ⟨b0 + 1, 1, none⟩ = some (.slice ea' b.edges.length ec') ∧ w9.cell? ⟨b0 + 1, 2, none⟩ = some (.slice da' b.held.length dc') := ⟨cellAt (S12.box 1 rfl) 0 rfl, cellAt (S12.box 5 rfl) 0 rfl, cellAt (S12.box 5 rfl) 1 rfl, cellAt (S12.box 5 rfl) 2 rfl⟩
        have f0 := frozenAt (S12.box 1 rfl) 0
        have S13 := (S12.setBox (cs := #[.slice va l.length vc, .slice none 0 0, .slice none 0 0]) (t := 28) 1 rfl 0 (.slice va' (l.length + 1) vc')).tail
        replace S13 := Lib.hid S13
        clear S10 S11 S12 hap hsl hgr hat C S9
        refine hK.out _ _ (fun _ => HS1) (fun _ => ?_)
        clear hK K
        refine wpAnyU_take 7 [] (v := _) (by simp only [List.getElem?_toArray, List.getElem?_cons_succ, List.getElem?_cons_zero]; rfl) (by kernel_rfl) (by kernel_rfl) (by kernel_rfl) (by kernel_rfl) (by kernel_rfl) (by exact fun _ _ _ h => h) (by rfl) (by (intro w hSw; try obtain ⟨s0, s1, s2, s3⟩ := hSw); (go_simp; try rfl)) HS1 ?_
        simp only [Act.put, List.setIfInBounds_toArray, List.set_cons_zero, List.set_cons_succ]
        refine wpAnyU_take 8 [] (v := _) (by simp only [List.getElem?_toArray, List.getElem?_cons_succ, List.getElem?_cons_zero]; rfl) (by kernel_rfl) (by kernel_rfl) (by kernel_rfl) (by kernel_rfl) (by kernel_rfl) (by exact fun _ _ _ h => h) (by rfl) (by (intro w hSw; try obtain ⟨s0, s1, s2, s3⟩ := hSw); (go_simp; try rfl)) HS1 ?_
        simp only [Act.put, List.setIfInBounds_toArray, List.set_cons_zero, List.set_cons_succ]
        refine wpAnyU_one 9 (by kernel_rfl) (by simp only [List.getElem?_toArray, List.getElem?_cons_succ, List.getElem?_cons_zero]; rfl) (fun K hK => ?_)
        go_simp
        refine hK.out _ _ (fun _ => HS2) (fun _ => ?_)
        clear hK K
        refine wpAnyU_one 10 (by kernel_rfl) (by simp only [List.getElem?_toArray, List.getElem?_cons_succ, List.getElem?_cons_zero]; rfl) (fun K hK => ?_)
        refine step_append_run (by rfl) _ _ _ (by rfl) (by rfl) (by rfl) HAP8.out ?_
        refine hK.out _ _ (fun _ => HS3) (fun _ => ?_)
        clear hK K
        refine wpAnyU_take 11 [] (v := _) (by simp only [List.getElem?_toArray, List.getElem?_cons_succ, List.getElem?_cons_zero]; rfl) (by kernel_rfl) (by kernel_rfl) (by kernel_rfl) (by kernel_rfl) (by kernel_rfl) (by exact fun _ _ _ h => h) (by rfl) (by (intro w hSw; try obtain ⟨s0, s1, s2, s3⟩ := hSw); (go_simp; try rfl)) HS3 ?_
        simp only [Act.put, List.setIfInBounds_toArray, List.set_cons_zero, List.set_cons_succ]
        refine wpAnyU_one 12 (by kernel_rfl) (by simp only [List.getElem?_toArray, List.getElem?_cons_succ, List.getElem?_cons_zero]; rfl) (fun K hK => ?_)
        go_simp
        refine hK.out _ _ (fun h => absurd rfl h) (fun _ => ?_)
        clear hK K
        refine wpAnyU_done (by kernel_rfl) ?_ _
        go_wp2
        exact ⟨⟨l.length + 1, by omega, by go_num, va', l.length + 1, vc', by rw [HNX.out]; exact S13.out⟩, by simp [intOf]; omega⟩
    · have hlti : ¬ (i : Int) < n + m := by omega
      obtain rfl : i = n + m := by omega
      have hrow : ∀ k, k < n + m → ((List.range (n + m)).map (bothK a.kinds b.kinds n))[k]? = some (bothK a.kinds b.kinds n k) := fun k hk => by rw [List.getElem?_map, List.getElem?_range hk]; rfl
      have hrl : ((List.range (n + m)).map (bothK a.kinds b.kinds n)).length = n + m := by simp
      obtain ⟨LB, hLB⟩ : ∃ x, (List.range (n + m)).map (bothK a.kinds b.kinds n) = x := ⟨_, rfl⟩
      rw [hLB] at S8 hrow hrl
      have HR := Lib.hid (And.intro hrow hrl)
      have C := Lib.hid S8.new
      clear S8 hLB hrow hrl hlt hi
      go_wp2_with fail
      refine C.out.mono ?_
      rintro e w10 ⟨o, rfl, S10, -⟩
      have S11 : Hid (Sep w (heapR o (baseM (bothO a.kinds b.kinds n) 0) :: boxR bB (graphB va (n + m) vc none 0 0 none 0 0) :: bytesR (.slice va (n + m) vc) LB :: [heapR k (madeM b), heapR h (madeM a), boxR (b0 + 1) (graphB ka' b.kinds.length kc' ea' b.edges.length ec' da' b.held.length dc'), boxR b0 (graphB ka a.kinds.length kc ea a.edges.length ec da a.held.length dc)]) w10) := Lib.hid S10
      clear C S10
      go_wp2
      go_loopw [15] (fun iv wr => ∃ i : Nat, i ≤ n + m ∧ iv = .int .i64 i ∧ Sep w (heapR o (baseM (bothO a.kinds b.kinds n) i) :: boxR bB (graphB va (n + m) vc none 0 0 none 0 0) :: bytesR (.slice va (n + m) vc) LB :: [heapR k (madeM b), heapR h (madeM a), boxR (b0 + 1) (graphB ka' b.kinds.length kc' ea' b.edges.length ec' da' b.held.length dc'), boxR b0 (graphB ka a.kinds.length kc ea a.edges.length ec da a.held.length dc)]) wr) (fun iv _ => n + m - (intOf iv).toNat)
      case atStart => exact ⟨0, by omega, rfl, S11.out⟩
      case round =>
        clear S11
        obtain ⟨i, hi, rfl, S12⟩ := hrel
        by_cases hlt : i < n + m
        · have hlti2 : (i : Int) < n + m := by omega
          have hk := HR.out.1 i hlt
          obtain ⟨bg, rfl⟩ : ∃ g, va = some ⟨g, 0, none⟩ := by
            rcases (S12.row 2 rfl).shape with ⟨h1, h2⟩ | ⟨g, cap, h1, _⟩
            · rw [h2] at hk; simp at hk
            · exact ⟨g, (Value.slice.inj h1).1⟩
          have kb0 := (S12.row 2 rfl).cell (f := byteCell) (m := 1) (fun _ => rfl) rfl hk (j := 0) (u := .int .u8 (bothK a.kinds b.kinds n i : Int)) rfl
          rw [Nat.mul_one, Nat.add_zero] at kb0
          have z0 := cellAt (S12.box 1 rfl) 0 (v := .slice (some ⟨bg, 0, none⟩) (n + m) vc) rfl
          have C := S12.make 0 rfl ((baseM_fit _ (bothO_ok a.kinds b.kinds n) i).more (M := 200) (by omega)).G (by omega) (bothO a.kinds b.kinds n i) (.slice none 0 0) (sees_none _) (by simp [bothO]) rfl (bothO_ok a.kinds b.kinds n i).1.1 (bothO_ok a.kinds b.kinds n i).1.2
          have hkd : (bothO a.kinds b.kinds n i).kind = 1 + (bothK a.kinds b.kinds n i : Int) := by
            show 1 + ((bothK a.kinds b.kinds n i % 12 : Nat) : Int) = _
            rw [Nat.mod_eq_of_lt (bothK_lt a.kinds b.kinds n i)]
          rw [hkd] at C
          have hkl := bothK_lt a.kinds b.kinds n i
          replace C : Hid (Calls Try.prog 26 #[.pointer (some ⟨o, 0, none⟩), .int .i64 (1 + (bothK a.kinds b.kinds n i : Int)), .string ⟨#[120]⟩, .int .i64 0, .slice none 0 0] wr fun e W' => e = .returned (.agg #[.int .i64 4, .int .i64 ((baseM (bothO a.kinds b.kinds n) i).last + 1), .string ⟨#[]⟩]) ∧ Sep w (heapR o (baseM (bothO a.kinds b.kinds n) (i + 1)) :: boxR bB (graphB (some ⟨bg, 0, none⟩) (n + m) vc none 0 0 none 0 0) :: bytesR (.slice (some ⟨bg, 0, none⟩) (n + m) vc) LB :: [heapR k (madeM b), heapR h (madeM a), boxR (b0 + 1) (graphB ka' b.kinds.length kc' ea' b.edges.length ec' da' b.held.length dc'), boxR b0 (graphB ka a.kinds.length kc ea a.edges.length ec da a.held.length dc)]) W') := Lib.hid C
          obtain ⟨kb, hkbe⟩ : ∃ x, bothK a.kinds b.kinds n i = x := ⟨_, rfl⟩
          rw [hkbe] at C kb0 hkl
          have hkli : (kb : Int) < 12 := by omega
          clear hkbe hk hkd S12
          go_wp2_with fail
          refine C.out.mono ?_
          rintro e w11 ⟨rfl, S13⟩
          replace S13 := Lib.hid S13
          clear C kb0 z0
          go_wp2
          exact ⟨⟨i + 1, by omega, by go_num, S13.out⟩, by simp [intOf]; omega⟩
        · have hlti2 : ¬ (i : Int) < n + m := by omega
          obtain rfl : i = n + m := by omega
          have S13 : Sep w (heapR o (baseM (bothO a.kinds b.kinds n) (n + m)) :: [heapR k (madeM b), heapR h (madeM a), boxR (b0 + 1) (graphB ka' b.kinds.length kc' ea' b.edges.length ec' da' b.held.length dc'), boxR b0 (graphB ka a.kinds.length kc ea a.edges.length ec da a.held.length dc)]) wr := S12.sub (.cons_cons _ (.cons _ (.cons _ (List.Sublist.refl _))))
          have hfit0 := (baseM_fit _ (bothO_ok a.kinds b.kinds n) (n + m)).more (M := 100) (by omega)
          have C := wire_ok S13 hfit0 (by omega) _ _ _ a HA.out 0 (by omega)
          rw [show ((0 : Nat) : Int) = 0 from rfl] at C
          have c0 := cellAt (S13.box 4 rfl) 0 (v := .slice ka a.kinds.length kc) rfl
          have c1 := cellAt (S13.box 4 rfl) 1 (v := .slice ea a.edges.length ec) rfl
          have c2 := cellAt (S13.box 4 rfl) 2 (v := .slice da a.held.length dc) rfl
          replace C := Lib.hid C
          have hfit1 := (wireM_fit (b := 0) (m := n - 1) hfit0 (a.edges.take 40)).more (M := 140) (by have := List.length_take_le 40 a.edges; omega)
          have HF1 := Lib.hid hfit1
          clear S12 S13 hlt hi hfit0 hfit1
          go_wp2_with fail
          refine C.out.mono ?_
          rintro e w12 ⟨⟨_, rfl⟩, S14⟩
          rw [HN.out] at S14
          clear c0 c1 c2 C
          have C := wire_ok S14 HF1.out (by omega) _ _ _ b HB.out n (by omega)
          have c0 := cellAt (S14.box 3 rfl) 0 (v := .slice ka' b.kinds.length kc') rfl
          have c1 := cellAt (S14.box 3 rfl) 1 (v := .slice ea' b.edges.length ec') rfl
          have c2 := cellAt (S14.box 3 rfl) 2 (v := .slice da' b.held.length dc') rfl
          replace C := Lib.hid C
          clear S14
          go_wp2_with fail
          refine C.out.mono ?_
          rintro e w13 ⟨⟨_, rfl⟩, S15⟩
          rw [HM.out] at S15
          have hO : wireM n (m - 1) (wireM 0 (n - 1) (baseM (bothO a.kinds b.kinds n) (n + m)) (a.edges.take 40)) (b.edges.take 40) = bothM a b := by unfold bothM; rw [HN.out, HM.out]
          rw [hO] at S15
          clear c0 c1 c2 C hO
          have c0 := cellAt (S15.box 4 rfl) 0 (v := .slice ka a.kinds.length kc) rfl
          have c1 := cellAt (S15.box 4 rfl) 1 (v := .slice ea a.edges.length ec) rfl
          have c2 := cellAt (S15.box 4 rfl) 2 (v := .slice da a.held.length dc) rfl
          have C := Lib.hid (held_ok S15 (.slice ka a.kinds.length kc) (.slice ea a.edges.length ec) _ rfl a.held HA.out.held)
          clear S15
          go_wp2_with fail
          refine C.out.mono ?_
          rintro e w14 ⟨lv, rfl, S16⟩
          clear c0 c1 c2 C
          have hL := held_len a.held
          have hLs := heldM_s a.held
          obtain ⟨L, hLL⟩ : ∃ x, heldM a.held = x := ⟨_, rfl⟩
          rw [hLL] at S16 hL hLs
          obtain ⟨la, lc, rfl⟩ := (S16.row 0 rfl).form
          have HL := Lib.hid (And.intro hL hLs)
          clear hLL hL hLs
          have c0 := cellAt (S16.box 4 rfl) 0 (v := .slice ka' b.kinds.length kc') rfl
          have c1 := cellAt (S16.box 4 rfl) 1 (v := .slice ea' b.edges.length ec') rfl
          have c2 := cellAt (S16.box 4 rfl) 2 (v := .slice da' b.held.length dc') rfl
          have C := Lib.hid (held_ok S16 (.slice ka' b.kinds.length kc') (.slice ea' b.edges.length ec') _ rfl b.held HB.out.held)
          clear S16
          go_wp2_with fail
          refine C.out.mono ?_
          rintro e w15 ⟨rv, rfl, S17⟩
          clear c0 c1 c2 C
          have hL := held_len b.held
          have hLs := heldM_s b.held
          obtain ⟨R, hRR⟩ : ∃ x, heldM b.held = x := ⟨_, rfl⟩
          rw [hRR] at S17 hL hLs
          obtain ⟨ra, rc, rfl⟩ := (S17.row 0 rfl).form
          have HRR := Lib.hid (And.intro hL hLs)
          clear hRR hL hLs
          have S18 := S17.madeVals
          have hq : ∀ {W} {Rs : List Res}, Sep w Rs W → True := fun _ => trivial
          clear hq
          have C := own_ok S18 2 rfl (by have := HL.out.1; omega) HL.out.2 n 0 (by omega) (by omega)
          rw [show ((0 : Nat) : Int) = 0 from rfl] at C
          replace C := Lib.hid C
          clear S17 S18
          go_wp2_with fail
          refine C.out.mono ?_
          rintro e w16 ⟨ov, rfl, S19⟩
          obtain ⟨oa1, oc1, rfl⟩ := (S19.row 0 rfl).form
          have hE1 := ownM_len L n 0
          have hH1 : HeldIn (ownM L n 0) n := ownM_zero HL.out.2 n (by omega)
          have hS1 := ownM_self L n (by omega)
          obtain ⟨E1, hE1e⟩ : ∃ x, ownM L n 0 = x := ⟨_, rfl⟩
          rw [hE1e] at S19 hE1 hH1 hS1 ⊢
          have HE1 := Lib.hid (And.intro hE1 (And.intro hH1 (And.intro hS1 hE1e)))
          have hE1i : (E1.length : Int) ≤ 12 := by have := HL.out.1; omega
          clear C hE1 hH1 hS1 hE1e
          go_wp2_with (at_builtin; refine wpList_append_sep rfl _ _ rfl S19 1 rfl rfl _ _ rfl ((S19.row 0 rfl).sees') (by simp; omega) ?_)
          intro va2 vc2 w17 S20
          try simp only [List.set_cons_succ, List.set_cons_zero, List.nil_append, List.length_nil, Nat.zero_add] at S20
          clear S19
          have C := Lib.hid (own_ok S20 2 rfl (by have := HRR.out.1; omega) HRR.out.2 m n (by omega) (by omega))
          replace S20 := S20
          clear S20
          go_wp2_with fail
          refine C.out.mono ?_
          rintro e w18 ⟨ov, rfl, S21⟩
          obtain ⟨oa2, oc2, rfl⟩ := (S21.row 0 rfl).form
          have hE2 := ownM_len R m n
          have hE2m := ownM_mov R m n (by omega) (by omega)
          obtain ⟨E3, hE3e⟩ : ∃ x, ownM R m n = x := ⟨_, rfl⟩
          rw [hE3e] at S21 hE2 hE2m ⊢
          have HE3 := Lib.hid (And.intro hE2 hE2m)
          have hE3i : (E3.length : Int) ≤ 12 := by have := HRR.out.1; omega
          clear C hE2 hE2m hE3e
          go_wp2_with (at_builtin; refine wpList_append_sep rfl _ _ rfl S21 2 rfl rfl _ _ rfl ((S21.row 0 rfl).sees') (by omega) ?_)
          intro va3 vc3 w19 S22
          try simp only [List.set_cons_succ, List.set_cons_zero] at S22
          have S23 := S22.tail.tail
          clear S21 S22
          have C := own_ok S23 2 rfl (by have := HL.out.1; omega) HL.out.2 n 0 (by omega) (by omega)
          rw [show ((0 : Nat) : Int) = 0 from rfl, HE1.out.2.2.2] at C
          replace C := Lib.hid C
          clear S23
          go_wp2_with fail
          refine C.out.mono ?_
          rintro e w20 ⟨ov, rfl, S24⟩
          obtain ⟨oa4, oc4, rfl⟩ := (S24.row 0 rfl).form
          have ft := madeM_fit a
          have C2 := Lib.hid (collect_ok S24 6 h rfl ft.G (by omega) ft.K oa4 oc4 E1 (by omega) (fun H' W' S' => (S'.row 0 rfl).sees') (fun W' => ArgS.row 0 (by decide) rfl))
          clear C S24 ft
          go_wp2_with fail
          refine C2.out.mono ?_
          rintro e w21 ⟨rfl, S25⟩
          try simp only [List.set_cons_succ, List.set_cons_zero] at S25
          replace S25 := S25.tail
          clear C2
          have C := own_ok S25 1 rfl (by have := HRR.out.1; omega) HRR.out.2 m 0 (by omega) (by omega)
          rw [show ((0 : Nat) : Int) = 0 from rfl] at C
          replace C := Lib.hid C
          clear S25
          go_wp2_with fail
          refine C.out.mono ?_
          rintro e w22 ⟨ov, rfl, S26⟩
          obtain ⟨oa5, oc5, rfl⟩ := (S26.row 0 rfl).form
          have hE2 := ownM_len R m 0
          have hH2 : HeldIn (ownM R m 0) m := ownM_zero HRR.out.2 m (by omega)
          have hM := HE3.out.2
          obtain ⟨E2, hE2e⟩ : ∃ x, ownM R m 0 = x := ⟨_, rfl⟩
          rw [hE2e] at S26 hE2 hH2 hM ⊢
          have HE2 := Lib.hid (And.intro hH2 hM)
          have hE2i : (E2.length : Int) ≤ 12 := by have := HRR.out.1; omega
          have ft := madeM_fit b
          have C2 := Lib.hid (collect_ok S26 5 k rfl ft.G (by omega) ft.K oa5 oc5 E2 (by omega) (fun H' W' S' => (S'.row 0 rfl).sees') (fun W' => ArgS.row 0 (by decide) rfl))
          clear C S26 ft hE2 hH2 hM hE2e
          go_wp2_with fail
          refine C2.out.mono ?_
          rintro e w23 ⟨rfl, S27⟩
          try simp only [List.set_cons_succ, List.set_cons_zero] at S27
          replace S27 := S27.tail
          clear C2
          have ft := both_fit a b
          obtain ⟨EA, hEA⟩ : ∃ x, E1 ++ E3 = x := ⟨_, rfl⟩
          have hlen : E1.length + E3.length = EA.length := by rw [← hEA, List.length_append]
          rw [hEA, hlen] at S27
          rw [hlen]
          have hEl : EA.length ≤ 24 := by rw [← hlen]; omega
          have HEA := Lib.hid hEA
          have C2 := Lib.hid (collect_ok S27 3 o rfl ft.G (by omega) ft.K va3 vc3 EA (by omega) (fun H' W' S' => (S'.row 0 rfl).sees') (fun W' => ArgS.row 0 (by decide) rfl))
          clear S27 ft hlen hEA
          go_wp2_with fail
          refine C2.out.mono ?_
          rintro e w24 ⟨rfl, S28⟩
          try simp only [List.set_cons_succ, List.set_cons_zero] at S28
          clear C2
          have hco := both_collect a b E1 E2 (by rw [HN.out]; exact HE1.out.2.1) (by rw [HM.out]; exact HE2.out.1)
          have hEE : EA = E1.map (movV 0) ++ E2.map (movV (manyM a.kinds)) := by rw [HN.out, ← HE1.out.2.2.1, ← HE2.out.2, HEA.out]
          rw [← hEE] at hco
          have F1 := (both_fit a b).collect (E := EA)
          have F2 := (madeM_fit a).collect (E := E1)
          have F3 := (madeM_fit b).collect (E := E2)
          have hlen1 := congrArg List.length hco
          rw [List.length_append, movL_len, movL_len] at hlen1
          have hlen2 := both_len a b
          have hliv1 := live_objs hco 6 0
          rw [live_app _ _ _ 0 0, movL_live 0 _ 0 ((madeM a).collect E1).last, movL_live _ _ 0 ((madeM b).collect E2).last] at hliv1
          replace hliv1 : ((bothM a b).collect EA).live 6 = ((madeM a).collect E1).live 6 + ((madeM b).collect E2).live 6 := hliv1
          have hliv2 := both_live a b 6
          have hkeys : ((bothM a b).collect EA).objs.map (·.1) = ((madeM a).collect E1).objs.map (·.1) ++ (((madeM b).collect E2).objs.map (·.1)).map (· + (n : Int)) := by
            rw [hco, HN.out, List.map_append]
            unfold movL
            rw [List.map_map, List.map_map, List.map_map]
            congr 1
            exact List.map_congr_left fun p _ => by simp
          have hk12 : ∀ x ∈ ((madeM b).collect E2).objs.map (·.1), 1 ≤ x ∧ x ≤ 12 := fun x hx => by
            rw [HeapM.collect_keys (madeM_fit b).G] at hx
            have h1 := (HeapM.mem_reached.1 hx).live
            obtain ⟨p, hp, rfl⟩ := getL_key h1
            have := made_keys b p hp
            rw [HM.out] at this; omega
          have hkok : ∀ x ∈ ((bothM a b).collect EA).objs.map (·.1), okI x := fun x hx => by
            obtain ⟨p, hp, rfl⟩ := List.mem_map.1 hx
            exact F1.G.key (by omega) hp
          have hb1 := F1.G.len
          have hb2 := F2.G.len
          have hb3 := F3.G.len
          have hb4 := (both_fit a b).G.len
          have hv4 : (bothM a b).live 6 ≤ (bothM a b).objs.length := live_le _ _
          have hv1 : ((bothM a b).collect EA).live 6 ≤ ((bothM a b).collect EA).objs.length := live_le _ _
          have hk4 := (both_fit a b).G.len
          have ha1 := (madeM_fit a).G.len
          have ha2 := (madeM_fit b).G.len
          have hv2 : (madeM a).live 6 ≤ (madeM a).objs.length := live_le _ _
          have hv3 : (madeM b).live 6 ≤ (madeM b).objs.length := live_le _ _
          have hv5 : ((madeM a).collect E1).live 6 ≤ ((madeM a).collect E1).objs.length := live_le _ _
          have hv6 : ((madeM b).collect E2).live 6 ≤ ((madeM b).collect E2).objs.length := live_le _ _
          obtain ⟨p, hp⟩ : ∃ x, ((madeM a).objs.length : Int) - ((madeM a).collect E1).objs.length = x := ⟨_, rfl⟩
          obtain ⟨q, hq⟩ : ∃ x, ((madeM a).live 6 : Int) - ((madeM a).collect E1).live 6 = x := ⟨_, rfl⟩
          obtain ⟨s, hs⟩ : ∃ x, ((madeM b).objs.length : Int) - ((madeM b).collect E2).objs.length = x := ⟨_, rfl⟩
          obtain ⟨t, ht⟩ : ∃ x, ((madeM b).live 6 : Int) - ((madeM b).collect E2).live 6 = x := ⟨_, rfl⟩
          have hu : ((bothM a b).objs.length : Int) - ((bothM a b).collect EA).objs.length = p + s := by omega
          have hv : ((bothM a b).live 6 : Int) - ((bothM a b).collect EA).live 6 = q + t := by omega
          have hps : wrap64 (p + s) = p + s := wrap64_id _ (by omega)
          have hqt : wrap64 (q + t) = q + t := wrap64_id _ (by omega)
          rw [hp, hq, hs, ht, hu, hv]
          have HPQ := Lib.hid (And.intro hps hqt)
          have C1 := Lib.hid (S28.all 5 rfl F2.G (by omega))
          obtain ⟨Ho, hHo⟩ : ∃ x, (bothM a b).collect EA = x := ⟨_, rfl⟩
          rw [hHo] at S28 hkeys hkok F1 C1
          obtain ⟨Ha, hHa⟩ : ∃ x, (madeM a).collect E1 = x := ⟨_, rfl⟩
          rw [hHa] at S28 hkeys F2 C1
          obtain ⟨Hb, hHb⟩ : ∃ x, (madeM b).collect E2 = x := ⟨_, rfl⟩
          rw [hHb] at S28 hkeys hk12 F3 C1
          have HK := Lib.hid (And.intro hkeys (And.intro hkok (And.intro hk12 (And.intro F1 (And.intro F2 F3)))))
          clear hlen1 hlen2 hliv1 hliv2 hkeys hkok hk12 F1 F2 F3 hb1 hb2 hb3 hb4 hv4 hv1 hk4 ha1 ha2 hv2 hv3 hv5 hv6 hp hq hs ht hu hv hHo hHa hHb hco hEE hps hqt S28
          go_wp2_with fail
          refine C1.out.mono ?_
          rintro e w25 ⟨av, rfl, S29, -⟩
          obtain ⟨aa, ac, rfl⟩ := (S29.row 0 rfl).form
          have C2 := Lib.hid (S29.all 5 rfl HK.out.2.2.2.2.2.G (by omega))
          have hal : (Ha.objs.map (·.1)).length ≤ 100 := by rw [List.length_map]; exact HK.out.2.2.2.2.1.G.len
          obtain ⟨KA, hKA⟩ : ∃ x, Ha.objs.map (·.1) = x := ⟨_, rfl⟩
          rw [hKA] at S29 C2 hal ⊢
          have HKA := Lib.hid (And.intro hKA hal)
          clear C1 S29 hKA hal
          go_wp2_with fail
          refine C2.out.mono ?_
          rintro e w26 ⟨bv, rfl, S30, -⟩
          obtain ⟨ba, bc, rfl⟩ := (S30.row 0 rfl).form
          have hbl : (Hb.objs.map (·.1)).length ≤ 100 := by rw [List.length_map]; exact HK.out.2.2.2.2.2.G.len
          obtain ⟨KB, hKB⟩ : ∃ x, Hb.objs.map (·.1) = x := ⟨_, rfl⟩
          rw [hKB] at S30 hbl ⊢
          have HKB := Lib.hid (And.intro hKB hbl)
          have hbli : (KB.length : Int) ≤ 100 := by omega
          clear C2 hKB hbl
          replace S30 : Hid (Sep w [numsR (.slice ba KB.length bc) KB, numsR (.slice aa KA.length ac) (KA ++ (KB.take 0).map (· + (n : Int))), heapR o Ho] w26) := by
            have e : KA ++ (KB.take 0).map (· + (n : Int)) = KA := by simp
            rw [e]
            exact Lib.hid (S30.sub (.cons_cons _ (.cons_cons _ (.cons _ (.cons _ (.cons _ (.cons_cons _ (.cons _ (.cons _ (.cons _ (.cons _ .slnil)))))))))))
          go_wp2
          go_loopw [25, 27] (fun lf iv wr => ∃ i : Nat, i ≤ KB.length ∧ iv = .int .i64 i ∧ Sep w [numsR (.slice ba KB.length bc) KB, numsR lf (KA ++ (KB.take i).map (· + (n : Int))), heapR o Ho] wr) (fun _ iv _ => KB.length - (intOf iv).toNat)
          case atStart => exact ⟨0, by omega, rfl, S30.out⟩
          case round =>
            clear S30
            obtain ⟨i, hi, rfl, S31⟩ := hrel
            obtain ⟨fa, fc, rfl⟩ := (S31.row 1 rfl).form
            have hZl : (KA ++ (KB.take i).map (· + (n : Int))).length ≤ 200 := by have := HKA.out.2; have := HKB.out.2; simp; omega
            by_cases hlt : i < KB.length
            · have hlti3 : (i : Int) < KB.length := by omega
              obtain ⟨x, hx⟩ : ∃ x, KB[i]? = some x := ⟨KB[i], by simp [hlt]⟩
              have hx12 := HK.out.2.2.1 x (by rw [HKB.out.1]; exact List.mem_of_getElem? hx)
              have hnext : KA ++ (KB.take (i + 1)).map (· + (n : Int)) = KA ++ (KB.take i).map (· + (n : Int)) ++ [x + n] := by
                rw [List.take_add_one, hx, List.map_append, ← List.append_assoc]; rfl
              obtain ⟨Z, hZ⟩ : ∃ x, KA ++ (KB.take i).map (· + (n : Int)) = x := ⟨_, rfl⟩
              rw [hZ] at S31 hZl hnext ⊢
              obtain ⟨bg, rfl⟩ := S31.numAddr 0 rfl hlt
              have cx := S31.numCell 0 rfl hx
              have HX2 := Lib.hid (And.intro hnext (And.intro hlt hZl))
              have hxi1 : 1 ≤ x := hx12.1
              have hxi2 : x ≤ 12 := hx12.2
              replace S31 := Lib.hid S31
              clear hnext hlt hZl hZ hx hx12
              go_wp2_with (at_builtin; refine wpList_push_sep rfl _ _ rfl (S31.out.later (belowAlloc _ _)) 1 rfl rfl _ _ rfl (cell_of_row _ _ _ _ _ _ (heapAllocNew _ _)) (by have := HX2.out.2.2; omega) ?_)
              intro va5 vc5 w27 S32
              replace S32 := Lib.hid S32
              clear S31 cx
              go_wp2
              refine ⟨⟨i + 1, by have := HX2.out.2.1; omega, by go_num, ?_⟩, by have := HX2.out.2.1; simp [intOf]; omega⟩
              rw [HX2.out.1]; simpa using S32.out
            · have hlti3 : ¬ (i : Int) < KB.length := by omega
              have hfin : KA ++ (KB.take i).map (· + (n : Int)) = Ho.objs.map (·.1) := by
                rw [List.take_of_length_le (by omega), ← HKA.out.1, ← HKB.out.1]; exact HK.out.1.symm
              rw [hfin] at S31 ⊢
              have C3 := Lib.hid (S31.all 2 rfl HK.out.2.2.2.1.G (by omega))
              obtain ⟨Z, hZ⟩ : ∃ x, Ho.objs.map (·.1) = x := ⟨_, rfl⟩
              rw [hZ] at S31 C3 ⊢
              have hok := HK.out.2.1
              rw [hZ] at hok
              have HZ := Lib.hid hok
              have b1 : (p + s == p + s) = true := by simp
              have b2 : (q + t == q + t) = true := by simp
              have hps := HPQ.out.1
              have hqt := HPQ.out.2
              clear hfin hZl hlt S31 hZ hok
              go_wp2_with fail
              refine C3.out.mono ?_
              rintro e w28 ⟨zv, rfl, S33, -⟩
              obtain ⟨za, zc, rfl⟩ := (S33.row 0 rfl).form
              have C4 := S33.sameN 0 2 rfl rfl HZ.out HZ.out
              rw [show decide (Z = Z) = true by simp] at C4
              replace C4 := Lib.hid C4
              clear C3 S33
              go_wp2_with fail
              refine C4.out.mono ?_
              rintro e w29 ⟨rfl, S34⟩
              have B := Lib.hid S34.below
              clear C4 S34
              go_wp2
              go_ret
              exact ⟨rfl, B.out⟩
set_option maxRecDepth 100000 in
theorem lifted (os : Os) (started : os.Started) (H : Type) (enc : TypeId × Value → H) :
    ReturnsInHanded {} Try.checked os 8 .any (Rows.collectPartsSpec.pre6 enc Try.prog Try.f8 Rows.collectPartsRow.domain false) (Rows.collectPartsSpec.post enc Try.prog Try.f8 false true false false) := by
  refine law_lift (C := Try.checked) own started (by kernel_rfl) Try.func8
    (ChangeSpec.witness6 (enc := enc) (C := Try.checked) false ⟨#[], #[.agg #[.slice none 0 0, .slice none 0 0, .slice none 0 0], .agg #[.slice none 0 0, .slice none 0 0, .slice none 0 0]], []⟩ 8 (by kernel_rfl) (by kernel_rfl) (by kernel_rfl) (by kernel_rfl))
    (by kernel_rfl) (by kernel_rfl) rfl (fun ds h => by
      match ds, h with
      | [d1, d2], _ => exact ⟨rfl, rfl, rfl⟩) rfl Try.underlying4 ?_
  intro W base args ds ps hval hA hlt hwt hsh
  rw [Try.params8] at hA hval
  obtain ⟨v0, vs0, d0, ds0, p0, q0, hargs, rfl, rfl, h0, r0⟩ := trodAll_cons hA
  obtain ⟨v1, vs1, d1, ds1, p1, q1, rfl, rfl, rfl, h1, r1⟩ := trodAll_cons r0
  obtain ⟨rfl, rfl, rfl⟩ := trodAll_nil r1
  obtain rfl : args = #[v0, v1] := by cases args; simp_all
  obtain ⟨cs0, rfl, hsz0⟩ := okWide_struct Try.underlying28 (hval 0 28 v0 rfl rfl)
  obtain ⟨fuel0, hf0⟩ := h0
  obtain ⟨kv0, ev0, hv0, gr0, e0, sg0⟩ := open_graph (cs := cs0.toList) hf0
  obtain rfl : cs0 = [kv0, ev0, hv0].toArray := by rw [← e0]
  obtain ⟨cs1, rfl, hsz1⟩ := okWide_struct Try.underlying28 (hval 1 28 v1 rfl rfl)
  obtain ⟨fuel1, hf1⟩ := h1
  obtain ⟨kv1, ev1, hv1, gr1, e1, sg1⟩ := open_graph (cs := cs1.toList) hf1
  obtain rfl : cs1 = [kv1, ev1, hv1].toArray := by rw [← e1]
  -- WALK
  exact walk W _ _ _ _ _ _ gr0 gr1 sg0 sg1
theorem proved : Rows.CollectPartsSaid :=
  OpenClaim.holds_of_wide 8 Try.f8 rfl rfl rfl rfl rfl rfl rfl ⟨rfl, rfl, rfl, rfl, rfl⟩ rfl rfl rfl rfl rfl (by kernel_rfl) Try.func8 (by kernel_rfl)
    (of_decide_eq_true (by kernel_rfl)) (by unfold Func.isWrapper; first | (rw [if_pos (by decide +kernel)]; kernel_rfl) | (rw [if_neg (by decide +kernel)]; exact ⟨rfl, rfl⟩))
    (fun os started H enc _ => lifted os started H enc)
#print axioms proved
end Go.Proofs.Ytjinabglachglaa.collectParts
