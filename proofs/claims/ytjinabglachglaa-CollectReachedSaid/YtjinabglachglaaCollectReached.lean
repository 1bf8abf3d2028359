/-
  CollectReached: for any graph the law returns true: what is reached is what is held, and what anything that is reached holds, and no more. No condition.
-/
import Derived.Test.YtjinabglachglaaLaw13
import Derived.Deep.RegionHeld3
import Derived.Deep.DeepCutAuto
namespace Go.Proofs.Ytjinabglachglaa.collectReached
set_option linter.unusedSimpArgs false
open Go.ChangeShapes Go.WideShapes Go.ChangeAt Go.RowKit
set_option linter.unusedVariables false
theorem Sep.valAddr {w W : World} {Rs : List Res} (S : Sep w Rs W) {a : Option Addr} {c : Nat} {L : List V} (i : Nat) (hi : Rs[i]? = some (valsR (.slice a L.length c) L)) {k : Nat} (hk : k < L.length) : ∃ g, a = some ⟨g, 0, none⟩ := by
  rcases (S.row i hi).shape with ⟨h1, h2⟩ | ⟨g, cap, h1, _⟩
  · rw [h2] at hk; simp at hk
  · exact ⟨g, (Value.slice.inj h1).1⟩
theorem Sep.valCells {w W : World} {Rs : List Res} (S : Sep w Rs W) {g c : Nat} {L : List V} (i : Nat) (hi : Rs[i]? = some (valsR (.slice (some ⟨g, 0, none⟩) L.length c) L)) {k : Nat} {v : V} (hv : L[k]? = some v) :
    W.cell? ⟨g, k * 3, none⟩ = some (.int .i64 v.kind) ∧ W.cell? ⟨g, k * 3 + 1, none⟩ = some (.int .i64 v.n) ∧ W.cell? ⟨g, k * 3 + 2, none⟩ = some (.string v.s) :=
  ⟨(S.row i hi).cell (f := V.cells) (m := 3) V.cells_len rfl hv (j := 0) rfl, (S.row i hi).cell (f := V.cells) (m := 3) V.cells_len rfl hv (j := 1) rfl, (S.row i hi).cell (f := V.cells) (m := 3) V.cells_len rfl hv (j := 2) rfl⟩
/-- What is held, as the law takes it. -/
def nearM (H : HeapM) (E : List V) : List Int := (E.filter fun v => (H.of v).isSome).map (·.n)
theorem mem_near {H : HeapM} {E : List V} {n : Int} : n ∈ nearM H E ↔ (getL H.objs n).isSome = true ∧ 0 < cnt E n := by
  unfold nearM
  rw [List.mem_map]
  constructor
  · rintro ⟨v, hv, rfl⟩
    obtain ⟨h1, h2⟩ := List.mem_filter.1 hv
    obtain ⟨o, ho⟩ := Option.isSome_iff_exists.1 h2
    obtain ⟨hk, hg⟩ := HeapM.of_some ho
    exact ⟨by rw [hg]; rfl, cnt_pos.2 ⟨v, h1, hk, rfl⟩⟩
  · rintro ⟨h1, h2⟩
    obtain ⟨v, hv, hk, rfl⟩ := cnt_pos.1 h2
    exact ⟨v, List.mem_filter.2 ⟨hv, by unfold HeapM.of; rw [if_pos hk]; exact h1⟩, rfl⟩
theorem near_snoc (H : HeapM) (E : List V) (v : V) : nearM H (E ++ [v]) = if (H.of v).isSome = true then nearM H E ++ [v.n] else nearM H E := by
  unfold nearM
  rw [List.filter_append, List.map_append]
  by_cases h : (H.of v).isSome = true
  · rw [List.filter_cons_of_pos (p := fun v => (H.of v).isSome) h, if_pos h]; rfl
  · rw [List.filter_cons_of_neg (p := fun v => (H.of v).isSome) h, if_neg h]; simp
theorem near_len (H : HeapM) (E : List V) : (nearM H E).length ≤ E.length := by
  unfold nearM; rw [List.length_map]; exact List.length_filter_le _ _
/-- A list grown by objects' numbers, none twice. -/
def Ext (H : HeapM) (xs l : List Int) : Prop := ∃ s, l = xs ++ s ∧ H.Nums s
theorem Ext.addNew {H : HeapM} {xs : List Int} : ∀ {r l : List Int}, Ext H xs l → (∀ n ∈ r, (getL H.objs n).isSome = true) → Ext H xs (addNew l r)
  | [], _, h, _ => h
  | n :: r, l, h, hr => by
    refine Ext.addNew (r := r) (l := if n ∈ l then l else l ++ [n]) ?_ (fun m hm => hr m (by simp [hm]))
    split
    · exact h
    · rename_i hn
      obtain ⟨s, rfl, hs⟩ := h
      exact ⟨s ++ [n], by simp, hs.add (hr n (by simp)) fun hm => hn (List.mem_append_right _ hm)⟩
theorem Ext.goK (H : HeapM) (xs : List Int) : ∀ k, Ext H xs (H.goK xs k)
  | 0 => ⟨[], by simp [HeapM.goK], by simp, by simp⟩
  | k + 1 => by
    unfold HeapM.goK
    split
    · exact Ext.addNew (Ext.goK H xs k) (H.refsOf_live _)
    · exact Ext.goK H xs k
theorem Ext.len {H : HeapM} {xs l : List Int} (h : Ext H xs l) : l.length ≤ xs.length + H.objs.length := by
  obtain ⟨s, rfl, hs⟩ := h
  have := hs.len
  simp; omega
theorem Ext.ok {H : HeapM} {N : Nat} (G : H.Good N) (hN : N ≤ 4000000) {xs l : List Int} (h : Ext H xs l) (hx : ∀ n ∈ xs, (getL H.objs n).isSome = true) : ∀ n ∈ l, okI n := fun n hn => by
  obtain ⟨s, rfl, hs⟩ := h
  rcases List.mem_append.1 hn with h | h
  · exact HeapM.live_ok G hN (hx n h)
  · exact HeapM.live_ok G hN (hs.2 n h)
set_option maxRecDepth 100000 in
set_option maxHeartbeats 6400000 in
theorem walk (w : World) (kv ev hv : Value) (g : GraphM) (hg : SeesG w kv ev hv g) :
    Calls Try.prog 4 #[.agg #[kv, ev, hv]] w fun e W' => e = .returned (.bool true) ∧ Below w.heap.size w W' := by
  have HG := Lib.hid hg
  obtain ⟨ka, kc, rfl, -, -, -⟩ := hg.kinds
  obtain ⟨ea, ec, rfl, -, -, -⟩ := hg.edges
  obtain ⟨da, dc, rfl, -, -, -⟩ := hg.held
  obtain ⟨bx, hbx⟩ : ∃ bx, w.heap.size = bx := ⟨_, rfl⟩
  have S0 := (Sep.start (Below.refl w.heap.size w)).alloc (.cells #[.slice ka g.kinds.length kc, .slice ea g.edges.length ec, .slice da g.held.length dc] 28)
  have K := Lib.hid (shown_ok (w.alloc (.cells #[.slice ka g.kinds.length kc, .slice ea g.edges.length ec, .slice da g.held.length dc] 28)))
  rw [hbx] at S0
  replace S0 := Lib.hid S0
  have HBX := Lib.hid hbx
  clear hg
  go_enter Try.func4, Try.ntmps4
  go_wp2_with fail
  refine K.out.mono ?_
  rintro e w1 ⟨rfl, b1⟩
  have S1 := S0.out.later b1
  have c0 := cellAt (S1.box 0 rfl) 0 (v := .slice ka g.kinds.length kc) rfl
  have c1 := cellAt (S1.box 0 rfl) 1 (v := .slice ea g.edges.length ec) rfl
  have c2 := cellAt (S1.box 0 rfl) 2 (v := .slice da g.held.length dc) rfl
  have C := Lib.hid (graph_ok S1 _ _ _ g HG.out)
  clear S0 S1 K b1 hbx
  go_wp2_with fail
  refine C.out.mono ?_
  rintro e w2 ⟨h, y, rfl, S2⟩
  replace S2 := S2.tail
  clear c0 c1 c2 C
  have c0 := cellAt (S2.box 1 rfl) 0 (v := .slice ka g.kinds.length kc) rfl
  have c1 := cellAt (S2.box 1 rfl) 1 (v := .slice ea g.edges.length ec) rfl
  have c2 := cellAt (S2.box 1 rfl) 2 (v := .slice da g.held.length dc) rfl
  have C := Lib.hid (held_ok S2 (.slice ka g.kinds.length kc) (.slice ea g.edges.length ec) _ rfl g.held HG.out.held)
  clear S2
  go_wp2_with fail
  refine C.out.mono ?_
  rintro e w3 ⟨lv, rfl, S3⟩
  clear c0 c1 c2 C
  have hL := held_len g.held
  obtain ⟨L, hLL⟩ : ∃ L, heldM g.held = L := ⟨_, rfl⟩
  rw [hLL] at S3 hL
  have HL := Lib.hid hL
  clear hLL hL
  obtain ⟨la, lc, rfl⟩ := (S3.row 0 rfl).form
  have FT := Lib.hid (madeM_fit g)
  obtain ⟨Hm, hHm⟩ : ∃ Hm, madeM g = Hm := ⟨_, rfl⟩
  rw [hHm] at S3 FT
  clear hHm HG HBX
  have C4 := Lib.hid (S3.reachedN 1 rfl FT.out (by omega) _ L ((S3.row 0 rfl).sees') (by have := HL.out; omega))
  clear S3
  go_wp2_with fail
  refine C4.out.mono ?_
  rintro e w4 ⟨rv, rfl, S4⟩
  obtain ⟨rva, rvc, rfl⟩ := (S4.row 0 rfl).form
  have F1 : ∀ v ∈ L, (Hm.of v).isSome = true → v.n ∈ Hm.reachedM L := fun v hv h => HeapM.mem_reached.2 (HeapM.R_held hv h)
  have F2 := HeapM.reached_ok FT.out.G (by omega) L
  have F3 : ∀ n ∈ Hm.reachedM L, ∀ hk : okI n, (Hm.kind (V.ref n hk) == 0) = false := fun n hn hk => by
    have h1 := (HeapM.mem_reached.1 hn).live
    have h2 : ¬ Hm.kind (V.ref n hk) = 0 := fun h0 => by
      have := (FT.out.K.zero _).1 h0
      unfold HeapM.of at this
      rw [if_pos (show (V.ref n hk).kind = 4 from rfl), show (V.ref n hk).n = n from rfl, h1] at this
      cases this
    simpa using h2
  have F4 : ∀ n ∈ Hm.reachedM L, ∀ m ∈ Hm.refsOf n, m ∈ Hm.reachedM L := fun n hn m hm => HeapM.mem_reached.2 ((HeapM.mem_reached.1 hn).step hm)
  have F5 : (Hm.reachedM L).Pairwise (· < ·) := HeapM.reached_asc FT.out.G
  have F6 : ∀ (k : Nat), (Hm.goK (nearM Hm L) k).length ≤ k → ∀ n ∈ Hm.reachedM L, n ∈ Hm.goK (nearM Hm L) k := fun k hk n hn => (HeapM.goK_end (fun n => mem_near) hk n).2 (HeapM.mem_reached.1 hn)
  have F7 := HeapM.reached_len FT.out.G L
  obtain ⟨R, hR⟩ : ∃ R, Hm.reachedM L = R := ⟨_, rfl⟩
  rw [hR] at S4 F1 F2 F3 F4 F5 F6 F7 ⊢
  have hlR : (R.length : Int) ≤ 100 := by omega
  have hlL : (L.length : Int) ≤ 12 := by have := HL.out; omega
  have FA := Lib.hid (And.intro F1 (And.intro F2 (And.intro F3 (And.intro F4 (And.intro F5 (And.intro F6 F7))))))
  obtain ⟨base, hbase⟩ : ∃ base, base = [numsR (.slice rva R.length rvc) R, valsR (.slice la L.length lc) L, heapR h Hm, boxR bx (.cells #[.slice ka g.kinds.length kc, .slice ea g.edges.length ec, .slice da g.held.length dc] 28)] := ⟨_, rfl⟩
  rw [← hbase] at S4
  have HB : Hid (base[0]? = some (numsR (.slice rva R.length rvc) R) ∧ base[1]? = some (valsR (.slice la L.length lc) L) ∧ base[2]? = some (heapR h Hm)) := Lib.hid (by subst hbase; exact ⟨rfl, rfl, rfl⟩)
  have SS := Lib.hid S4
  clear hbase S4 C4 F1 F2 F3 F4 F5 F6 F7 hR
  go_wp2
  go_loopw [8] (fun i wr => ∃ k : Nat, k ≤ L.length ∧ i = .int .i64 k ∧ Sep w base wr) (fun i _ => L.length - (intOf i).toNat)
  case atStart => exact ⟨0, by omega, rfl, SS.out⟩
  case round =>
    clear SS
    obtain ⟨k, hk, rfl, S17⟩ := hrel
    by_cases hlt : k < L.length
    · have hlti : (k : Int) < L.length := by omega
      obtain ⟨v, hv⟩ : ∃ v, L[k]? = some v := ⟨L[k], by simp [hlt]⟩
      obtain ⟨lg, rfl⟩ := Sep.valAddr S17 1 HB.out.2.1 hlt
      obtain ⟨x0, x1, x2⟩ := Sep.valCells S17 1 HB.out.2.1 hv
      have C1 := S17.kind 2 HB.out.2.2 v
      by_cases hs : (Hm.of v).isSome = true
      · have hmem := FA.out.1 v (List.mem_of_getElem? hv) hs
        have hne : (Hm.kind v == 0) = false := by
          have : ¬ Hm.kind v = 0 := fun h0 => by rw [(FT.out.K.zero v).1 h0] at hs; cases hs
          simpa using this
        have HV := Lib.hid (And.intro hv hmem)
        replace C1 := Lib.hid C1
        obtain ⟨kd, hkd⟩ : ∃ x, Hm.kind v = x := ⟨_, rfl⟩
        rw [hkd] at C1 hne
        have hne2 : ¬ kd = 0 := by simpa using hne
        clear S17 hv hlt hmem hs hkd
        go_wp2_with fail
        refine C1.out.mono ?_
        rintro e w18 ⟨rfl, S18, -⟩
        obtain ⟨y0, y1, y2⟩ := Sep.valCells S18 1 HB.out.2.1 HV.out.1
        have I1 := S18.inN 0 HB.out.1 v.n
        rw [show decide (v.n ∈ R) = true by simpa using HV.out.2] at I1
        replace I1 := Lib.hid I1
        clear S18 C1 x0 x1 x2
        go_wp2_with fail
        refine I1.out.mono ?_
        rintro e w19 ⟨rfl, S19⟩
        replace S19 := Lib.hid S19
        clear I1 y0 y1 y2
        go_wp2
        exact ⟨⟨k + 1, by omega, by go_num, S19.out⟩, by simp [intOf]; omega⟩
      · have h0 : Hm.kind v = 0 := (FT.out.K.zero v).2 (by simpa using hs)
        rw [h0] at C1
        replace C1 := Lib.hid C1
        clear S17 hv hlt hs h0
        go_wp2_with fail
        refine C1.out.mono ?_
        rintro e w18 ⟨rfl, S18, -⟩
        replace S18 := Lib.hid S18
        clear C1 x0 x1 x2
        go_wp2
        exact ⟨⟨k + 1, by omega, by go_num, S18.out⟩, by simp [intOf]; omega⟩
    · have hlti : ¬ (k : Int) < L.length := by omega
      have SS := Lib.hid S17
      clear hlt S17
      go_wp2
      go_loopw [9] (fun i wr => ∃ k : Nat, k ≤ R.length ∧ i = .int .i64 k ∧ Sep w base wr) (fun i _ => R.length - (intOf i).toNat)
      case atStart => exact ⟨0, by omega, rfl, SS.out⟩
      case round =>
        clear SS
        obtain ⟨k, hk, rfl, S17⟩ := hrel
        by_cases hlt : k < R.length
        · have hlti : (k : Int) < R.length := by omega
          obtain ⟨n, hn⟩ : ∃ n, R[k]? = some n := ⟨R[k], by simp [hlt]⟩
          have hm := List.mem_of_getElem? hn
          have hkn := FA.out.2.1 n hm
          obtain ⟨rg, rfl⟩ := S17.numAddr 0 HB.out.1 hlt
          have hk0 := FA.out.2.2.1 n hm hkn
          have K1 := Lib.hid (fun W (S : Sep w base W) => S.refN n)
          have K2 := fun W (S : Sep w base W) => S.kind 2 HB.out.2.2 (V.ref n hkn)
          obtain ⟨kd, hkd⟩ : ∃ x, Hm.kind (V.ref n hkn) = x := ⟨_, rfl⟩
          simp only [hkd, show (V.ref n hkn).val = .agg #[.int .i64 4, .int .i64 n, .string ⟨#[]⟩] from rfl] at K2
          rw [hkd] at hk0
          replace K2 := Lib.hid K2
          have S18 := Lib.hid S17
          have HN := Lib.hid (And.intro hn (And.intro hm hlt))
          have hrest : Hid (∀ (W : World), Sep w base W → W.cell? ⟨rg, k, none⟩ = some (.int .i64 n)) := Lib.hid fun W S => S.numCell 0 HB.out.1 hn
          clear hkd S17 hm
          go_upto_region 15 with fail
          go_cut [87] (fun s87 wx => s87 = .bool false ∧ Sep w base wx)
          case first =>
            cases k with
            | zero =>
              have KK : Hid (∀ W, Sep w base W → W.cell? ⟨rg, 0, none⟩ = some (.int .i64 n)) := hrest
              have T0 := S18.out
              clear S18 hn hrest
              refine wp_region_held_drew (S := (fun W => W.cell? ⟨rg, 0, none⟩ = some (.int .i64 n))) (by kernel_rfl) ?_ (fun hH => ?_)
              · first | exact KK.out _ (by assumption) | exact KK.out _ (Sep.drew (by assumption))
              refine wpAnyH_take (i := 0) (v := _) (by simp only [List.getElem?_toArray, List.getElem?_cons_succ, List.getElem?_cons_zero]; rfl) (by kernel_rfl) (by kernel_rfl) (by kernel_rfl) (by exact fun _ _ _ h => h) (.inl ⟨by rfl, by (intro w hSw; have s0 := hSw); (go_simp; try rfl)⟩) hH ?_
              simp only [Act.put, List.setIfInBounds_toArray, List.set_cons_zero, List.set_cons_succ]
              refine wpAnyH_take (i := 1) (v := _) (by simp only [List.getElem?_toArray, List.getElem?_cons_succ, List.getElem?_cons_zero]; rfl) (by kernel_rfl) (by kernel_rfl) (by kernel_rfl) (by exact fun _ _ _ h => h) (.inl ⟨by rfl, by (intro w hSw; have s0 := hSw); (go_simp; try rfl)⟩) hH ?_
              simp only [Act.put, List.setIfInBounds_toArray, List.set_cons_zero, List.set_cons_succ]
              refine wpAnyH_take (i := 2) (v := _) (by simp only [List.getElem?_toArray, List.getElem?_cons_succ, List.getElem?_cons_zero]; rfl) (by kernel_rfl) (by kernel_rfl) (by kernel_rfl) (by exact fun _ _ _ h => h) (.inl ⟨by rfl, by (intro w hSw; have s0 := hSw); (go_simp; try rfl)⟩) hH ?_
              simp only [Act.put, List.setIfInBounds_toArray, List.set_cons_zero, List.set_cons_succ]
              refine wpAnyH_take (i := 3) (v := undef) (by simp only [List.getElem?_toArray, List.getElem?_cons_succ, List.getElem?_cons_zero]; rfl) (by kernel_rfl) (by kernel_rfl) (by kernel_rfl) (by exact fun _ _ _ h => h) (.inr ⟨by rfl, rfl⟩) hH ?_
              simp only [Act.put, List.setIfInBounds_toArray, List.set_cons_zero, List.set_cons_succ]
              refine wpAnyH_take (i := 4) (v := undef) (by simp only [List.getElem?_toArray, List.getElem?_cons_succ, List.getElem?_cons_zero]; rfl) (by kernel_rfl) (by kernel_rfl) (by kernel_rfl) (by exact fun _ _ _ h => h) (.inr ⟨by rfl, rfl⟩) hH ?_
              simp only [Act.put, List.setIfInBounds_toArray, List.set_cons_zero, List.set_cons_succ]
              refine wpAnyH_take (i := 5) (v := undef) (by simp only [List.getElem?_toArray, List.getElem?_cons_succ, List.getElem?_cons_zero]; rfl) (by kernel_rfl) (by kernel_rfl) (by kernel_rfl) (by exact fun _ _ _ h => h) (.inr ⟨by rfl, rfl⟩) hH ?_
              simp only [Act.put, List.setIfInBounds_toArray, List.set_cons_zero, List.set_cons_succ]
              refine wpAnyH_take (i := 6) (v := undef) (by simp only [List.getElem?_toArray, List.getElem?_cons_succ, List.getElem?_cons_zero]; rfl) (by kernel_rfl) (by kernel_rfl) (by kernel_rfl) (by exact fun _ _ _ h => h) (.inr ⟨by rfl, rfl⟩) hH ?_
              simp only [Act.put, List.setIfInBounds_toArray, List.set_cons_zero, List.set_cons_succ]
              refine wpAnyH_take (i := 7) (v := undef) (by simp only [List.getElem?_toArray, List.getElem?_cons_succ, List.getElem?_cons_zero]; rfl) (by kernel_rfl) (by kernel_rfl) (by kernel_rfl) (by exact fun _ _ _ h => h) (.inr ⟨by rfl, rfl⟩) hH ?_
              simp only [Act.put, List.setIfInBounds_toArray, List.set_cons_zero, List.set_cons_succ]
              refine wpAnyH_take (i := 8) (v := undef) (by simp only [List.getElem?_toArray, List.getElem?_cons_succ, List.getElem?_cons_zero]; rfl) (by kernel_rfl) (by kernel_rfl) (by kernel_rfl) (by exact fun _ _ _ h => h) (.inr ⟨by rfl, rfl⟩) hH ?_
              simp only [Act.put, List.setIfInBounds_toArray, List.set_cons_zero, List.set_cons_succ]
              refine wpAnyH_take (i := 9) (v := undef) (by simp only [List.getElem?_toArray, List.getElem?_cons_succ, List.getElem?_cons_zero]; rfl) (by kernel_rfl) (by kernel_rfl) (by kernel_rfl) (by exact fun _ _ _ h => h) (.inr ⟨by rfl, rfl⟩) hH ?_
              simp only [Act.put, List.setIfInBounds_toArray, List.set_cons_zero, List.set_cons_succ]
              refine wpAnyH_take (i := 10) (v := undef) (by simp only [List.getElem?_toArray, List.getElem?_cons_succ, List.getElem?_cons_zero]; rfl) (by kernel_rfl) (by kernel_rfl) (by kernel_rfl) (by exact fun _ _ _ h => h) (.inr ⟨by rfl, rfl⟩) hH ?_
              simp only [Act.put, List.setIfInBounds_toArray, List.set_cons_zero, List.set_cons_succ]
              refine wpAnyH_take (i := 11) (v := undef) (by simp only [List.getElem?_toArray, List.getElem?_cons_succ, List.getElem?_cons_zero]; rfl) (by kernel_rfl) (by kernel_rfl) (by kernel_rfl) (by exact fun _ _ _ h => h) (.inr ⟨by rfl, rfl⟩) hH ?_
              simp only [Act.put, List.setIfInBounds_toArray, List.set_cons_zero, List.set_cons_succ]
              refine wpAnyH_take (i := 12) (v := undef) (by simp only [List.getElem?_toArray, List.getElem?_cons_succ, List.getElem?_cons_zero]; rfl) (by kernel_rfl) (by kernel_rfl) (by kernel_rfl) (by exact fun _ _ _ h => h) (.inr ⟨by rfl, rfl⟩) hH ?_
              simp only [Act.put, List.setIfInBounds_toArray, List.set_cons_zero, List.set_cons_succ]
              refine wpAnyH_take (i := 13) (v := _) (by simp only [List.getElem?_toArray, List.getElem?_cons_succ, List.getElem?_cons_zero]; rfl) (by kernel_rfl) (by kernel_rfl) (by kernel_rfl) (by exact fun _ _ _ h => h) (.inl ⟨by rfl, by (intro w hSw; have s0 := hSw); (go_simp; try rfl)⟩) hH ?_
              simp only [Act.put, List.setIfInBounds_toArray, List.set_cons_zero, List.set_cons_succ]
              refine wpAnyH_take (i := 14) (v := _) (by simp only [List.getElem?_toArray, List.getElem?_cons_succ, List.getElem?_cons_zero]; rfl) (by kernel_rfl) (by kernel_rfl) (by kernel_rfl) (by exact fun _ _ _ h => h) (.inl ⟨by rfl, by (intro w hSw; have s0 := hSw); (go_simp; try rfl)⟩) hH ?_
              simp only [Act.put, List.setIfInBounds_toArray, List.set_cons_zero, List.set_cons_succ]
              refine wpAnyH_take (i := 15) (v := _) (by simp only [List.getElem?_toArray, List.getElem?_cons_succ, List.getElem?_cons_zero]; rfl) (by kernel_rfl) (by kernel_rfl) (by kernel_rfl) (by exact fun _ _ _ h => h) (.inl ⟨by rfl, by (intro w hSw; have s0 := hSw); (go_simp; try rfl)⟩) hH ?_
              simp only [Act.put, List.setIfInBounds_toArray, List.set_cons_zero, List.set_cons_succ]
              refine wpAnyH_take (i := 16) (v := _) (by simp only [List.getElem?_toArray, List.getElem?_cons_succ, List.getElem?_cons_zero]; rfl) (by kernel_rfl) (by kernel_rfl) (by kernel_rfl) (by exact fun _ _ _ h => h) (.inl ⟨by rfl, by (intro w hSw; have s0 := hSw); (go_simp; try rfl)⟩) hH ?_
              simp only [Act.put, List.setIfInBounds_toArray, List.set_cons_zero, List.set_cons_succ]
              refine wpAnyH_take (i := 17) (v := _) (by simp only [List.getElem?_toArray, List.getElem?_cons_succ, List.getElem?_cons_zero]; rfl) (by kernel_rfl) (by kernel_rfl) (by kernel_rfl) (by exact fun _ _ _ h => h) (.inl ⟨by rfl, by (intro w hSw; have s0 := hSw); (go_simp; try rfl)⟩) hH ?_
              simp only [Act.put, List.setIfInBounds_toArray, List.set_cons_zero, List.set_cons_succ]
              refine wpAnyH_take (i := 18) (v := _) (by simp only [List.getElem?_toArray, List.getElem?_cons_succ, List.getElem?_cons_zero]; rfl) (by kernel_rfl) (by kernel_rfl) (by kernel_rfl) (by exact fun _ _ _ h => h) (.inl ⟨by rfl, by (intro w hSw; have s0 := hSw); (go_simp; try rfl)⟩) hH ?_
              simp only [Act.put, List.setIfInBounds_toArray, List.set_cons_zero, List.set_cons_succ]
              refine wpAnyH_take (i := 19) (v := _) (by simp only [List.getElem?_toArray, List.getElem?_cons_succ, List.getElem?_cons_zero]; rfl) (by kernel_rfl) (by kernel_rfl) (by kernel_rfl) (by exact fun _ _ _ h => h) (.inl ⟨by rfl, by (intro w hSw; have s0 := hSw); (go_simp; try rfl)⟩) hH ?_
              simp only [Act.put, List.setIfInBounds_toArray, List.set_cons_zero, List.set_cons_succ]
              refine wpAnyH_ready (rs := [20]) (by kernel_rfl) (by simp) ?_
              refine AllReadyH.cons (by simp only [List.getElem?_toArray, List.getElem?_cons_succ, List.getElem?_cons_zero]; rfl) (fun K hK => ?_) AllReadyH.nil
              go_simp
              go_wp2_with (first | (go_at_call 21; refine (K1.out _ (by first | assumption | exact Sep.drew (by assumption))).mono ?_; rintro e w6 ⟨rfl, T1⟩) | (go_at_call 19; refine (K2.out _ (by first | assumption | exact Sep.drew (by assumption))).mono ?_; rintro e w6 ⟨rfl, T1, -⟩))
              clear hH
              refine hK.out _ _ ?_ (fun hH => ?_)
              · first | exact KK.out _ (by assumption) | exact KK.out _ (Sep.drew (by assumption))
              clear hK K
              refine wpAnyH_ready (rs := [21]) (by kernel_rfl) (by simp) ?_
              refine AllReadyH.cons (by simp only [List.getElem?_toArray, List.getElem?_cons_succ, List.getElem?_cons_zero]; rfl) (fun K hK => ?_) AllReadyH.nil
              go_simp
              go_wp2_with (first | (go_at_call 21; refine (K1.out _ (by first | assumption | exact Sep.drew (by assumption))).mono ?_; rintro e w6 ⟨rfl, T1⟩) | (go_at_call 19; refine (K2.out _ (by first | assumption | exact Sep.drew (by assumption))).mono ?_; rintro e w6 ⟨rfl, T1, -⟩))
              clear hH
              refine hK.out _ _ ?_ (fun hH => ?_)
              · first | exact KK.out _ (by assumption) | exact KK.out _ (Sep.drew (by assumption))
              clear hK K
              refine wpAnyH_take (i := 22) (v := _) (by simp only [List.getElem?_toArray, List.getElem?_cons_succ, List.getElem?_cons_zero]; rfl) (by kernel_rfl) (by kernel_rfl) (by kernel_rfl) (by exact fun _ _ _ h => h) (.inl ⟨by rfl, by (intro w hSw; have s0 := hSw); (go_simp; try rfl)⟩) hH ?_
              simp only [Act.put, List.setIfInBounds_toArray, List.set_cons_zero, List.set_cons_succ]
              refine wpAnyH_take (i := 23) (v := _) (by simp only [List.getElem?_toArray, List.getElem?_cons_succ, List.getElem?_cons_zero]; rfl) (by kernel_rfl) (by kernel_rfl) (by kernel_rfl) (by exact fun _ _ _ h => h) (.inl ⟨by rfl, by (intro w hSw; have s0 := hSw); (go_simp; try rfl)⟩) hH ?_
              simp only [Act.put, List.setIfInBounds_toArray, List.set_cons_zero, List.set_cons_succ]
              refine wpAnyH_done (by kernel_rfl) ?_ _
              go_wp2_with fail
              go_meet
              exact ⟨rfl, by assumption⟩
            | succ j =>
              obtain ⟨m, hmj⟩ : ∃ m, R[j]? = some m := ⟨R[j]'(by omega), by simp⟩
              have hlt2 : m < n := by
                obtain ⟨h1, e1⟩ := List.getElem?_eq_some_iff.1 hmj
                obtain ⟨h2, e2⟩ := List.getElem?_eq_some_iff.1 hn
                have := List.pairwise_iff_getElem.1 FA.out.2.2.2.2.1 j (j + 1) h1 h2 (by omega)
                rw [e1, e2] at this; exact this
              have hle : decide (n ≤ m) = false := by simp; omega
              have hj1 : (j : Int) < R.length := by omega
              have hj2 : (j : Int) + 1 - 1 = j := by omega
              have hj3 : (j : Int) + 1 ≤ 100 := by omega
              have KK : Hid (∀ W, Sep w base W → W.cell? ⟨rg, j + 1, none⟩ = some (.int .i64 n) ∧ W.cell? ⟨rg, j, none⟩ = some (.int .i64 m)) := Lib.hid fun W S => ⟨hrest.out W S, S.numCell 0 HB.out.1 hmj⟩
              have T0 := S18.out
              have hj0 : j < R.length := by omega
              have hj4 : (j : Int) + 1 < R.length := by omega
              have hj5 : (0 : Int) ≤ (j : Int) + 1 := by omega
              have hj6 : IntKind.i64.wrap (j : Int) = j := IntWalk.i64_in _ (by omega)
              have hj7 : (0 : Int) ≤ (j : Int) := by omega
              clear S18 hn hrest hmj hlt2
              refine wp_region_held_drew (S := (fun W => W.cell? ⟨rg, j + 1, none⟩ = some (.int .i64 n) ∧ W.cell? ⟨rg, j, none⟩ = some (.int .i64 m))) (by kernel_rfl) ?_ (fun hH => ?_)
              · first | exact KK.out _ (by assumption) | exact KK.out _ (Sep.drew (by assumption))
              refine wpAnyH_take (i := 0) (v := _) (by simp only [List.getElem?_toArray, List.getElem?_cons_succ, List.getElem?_cons_zero]; rfl) (by kernel_rfl) (by kernel_rfl) (by kernel_rfl) (by exact fun _ _ _ h => h) (.inl ⟨by rfl, by (intro w hSw; obtain ⟨s0, s1⟩ := hSw); (go_simp; try rfl)⟩) hH ?_
              simp only [Act.put, List.setIfInBounds_toArray, List.set_cons_zero, List.set_cons_succ]
              refine wpAnyH_take (i := 1) (v := _) (by simp only [List.getElem?_toArray, List.getElem?_cons_succ, List.getElem?_cons_zero]; rfl) (by kernel_rfl) (by kernel_rfl) (by kernel_rfl) (by exact fun _ _ _ h => h) (.inl ⟨by rfl, by (intro w hSw; obtain ⟨s0, s1⟩ := hSw); (go_simp; try rfl)⟩) hH ?_
              simp only [Act.put, List.setIfInBounds_toArray, List.set_cons_zero, List.set_cons_succ]
              refine wpAnyH_take (i := 2) (v := _) (by simp only [List.getElem?_toArray, List.getElem?_cons_succ, List.getElem?_cons_zero]; rfl) (by kernel_rfl) (by kernel_rfl) (by kernel_rfl) (by exact fun _ _ _ h => h) (.inl ⟨by rfl, by (intro w hSw; obtain ⟨s0, s1⟩ := hSw); (go_simp; try rfl)⟩) hH ?_
              simp only [Act.put, List.setIfInBounds_toArray, List.set_cons_zero, List.set_cons_succ]
              refine wpAnyH_take (i := 3) (v := _) (by simp only [List.getElem?_toArray, List.getElem?_cons_succ, List.getElem?_cons_zero]; rfl) (by kernel_rfl) (by kernel_rfl) (by kernel_rfl) (by exact fun _ _ _ h => h) (.inl ⟨by rfl, by (intro w hSw; obtain ⟨s0, s1⟩ := hSw); (go_simp; try rfl)⟩) hH ?_
              simp only [Act.put, List.setIfInBounds_toArray, List.set_cons_zero, List.set_cons_succ]
              refine wpAnyH_take (i := 4) (v := _) (by simp only [List.getElem?_toArray, List.getElem?_cons_succ, List.getElem?_cons_zero]; rfl) (by kernel_rfl) (by kernel_rfl) (by kernel_rfl) (by exact fun _ _ _ h => h) (.inl ⟨by rfl, by (intro w hSw; obtain ⟨s0, s1⟩ := hSw); (go_simp; try rfl)⟩) hH ?_
              simp only [Act.put, List.setIfInBounds_toArray, List.set_cons_zero, List.set_cons_succ]
              refine wpAnyH_take (i := 5) (v := _) (by simp only [List.getElem?_toArray, List.getElem?_cons_succ, List.getElem?_cons_zero]; rfl) (by kernel_rfl) (by kernel_rfl) (by kernel_rfl) (by exact fun _ _ _ h => h) (.inl ⟨by rfl, by (intro w hSw; obtain ⟨s0, s1⟩ := hSw); (go_simp; try rfl)⟩) hH ?_
              simp only [Act.put, List.setIfInBounds_toArray, List.set_cons_zero, List.set_cons_succ]
              refine wpAnyH_take (i := 6) (v := _) (by simp only [List.getElem?_toArray, List.getElem?_cons_succ, List.getElem?_cons_zero]; rfl) (by kernel_rfl) (by kernel_rfl) (by kernel_rfl) (by exact fun _ _ _ h => h) (.inl ⟨by rfl, by (intro w hSw; obtain ⟨s0, s1⟩ := hSw); (go_simp; try rfl)⟩) hH ?_
              simp only [Act.put, List.setIfInBounds_toArray, List.set_cons_zero, List.set_cons_succ]
              refine wpAnyH_take (i := 7) (v := _) (by simp only [List.getElem?_toArray, List.getElem?_cons_succ, List.getElem?_cons_zero]; rfl) (by kernel_rfl) (by kernel_rfl) (by kernel_rfl) (by exact fun _ _ _ h => h) (.inl ⟨by rfl, by (intro w hSw; obtain ⟨s0, s1⟩ := hSw); (go_simp; try rfl)⟩) hH ?_
              simp only [Act.put, List.setIfInBounds_toArray, List.set_cons_zero, List.set_cons_succ]
              refine wpAnyH_take (i := 8) (v := _) (by simp only [List.getElem?_toArray, List.getElem?_cons_succ, List.getElem?_cons_zero]; rfl) (by kernel_rfl) (by kernel_rfl) (by kernel_rfl) (by exact fun _ _ _ h => h) (.inl ⟨by rfl, by (intro w hSw; obtain ⟨s0, s1⟩ := hSw); (go_simp; try rfl)⟩) hH ?_
              simp only [Act.put, List.setIfInBounds_toArray, List.set_cons_zero, List.set_cons_succ]
              refine wpAnyH_take (i := 9) (v := _) (by simp only [List.getElem?_toArray, List.getElem?_cons_succ, List.getElem?_cons_zero]; rfl) (by kernel_rfl) (by kernel_rfl) (by kernel_rfl) (by exact fun _ _ _ h => h) (.inl ⟨by rfl, by (intro w hSw; obtain ⟨s0, s1⟩ := hSw); (go_simp; try rfl)⟩) hH ?_
              simp only [Act.put, List.setIfInBounds_toArray, List.set_cons_zero, List.set_cons_succ]
              refine wpAnyH_take (i := 10) (v := _) (by simp only [List.getElem?_toArray, List.getElem?_cons_succ, List.getElem?_cons_zero]; rfl) (by kernel_rfl) (by kernel_rfl) (by kernel_rfl) (by exact fun _ _ _ h => h) (.inl ⟨by rfl, by (intro w hSw; obtain ⟨s0, s1⟩ := hSw); (go_simp; try rfl)⟩) hH ?_
              simp only [Act.put, List.setIfInBounds_toArray, List.set_cons_zero, List.set_cons_succ]
              refine wpAnyH_take (i := 11) (v := _) (by simp only [List.getElem?_toArray, List.getElem?_cons_succ, List.getElem?_cons_zero]; rfl) (by kernel_rfl) (by kernel_rfl) (by kernel_rfl) (by exact fun _ _ _ h => h) (.inl ⟨by rfl, by (intro w hSw; obtain ⟨s0, s1⟩ := hSw); (go_simp; try rfl)⟩) hH ?_
              simp only [Act.put, List.setIfInBounds_toArray, List.set_cons_zero, List.set_cons_succ]
              refine wpAnyH_take (i := 12) (v := _) (by simp only [List.getElem?_toArray, List.getElem?_cons_succ, List.getElem?_cons_zero]; rfl) (by kernel_rfl) (by kernel_rfl) (by kernel_rfl) (by exact fun _ _ _ h => h) (.inl ⟨by rfl, by (intro w hSw; obtain ⟨s0, s1⟩ := hSw); (go_simp; try rfl)⟩) hH ?_
              simp only [Act.put, List.setIfInBounds_toArray, List.set_cons_zero, List.set_cons_succ]
              refine wpAnyH_take (i := 13) (v := _) (by simp only [List.getElem?_toArray, List.getElem?_cons_succ, List.getElem?_cons_zero]; rfl) (by kernel_rfl) (by kernel_rfl) (by kernel_rfl) (by exact fun _ _ _ h => h) (.inl ⟨by rfl, by (intro w hSw; obtain ⟨s0, s1⟩ := hSw); (go_simp; try rfl)⟩) hH ?_
              simp only [Act.put, List.setIfInBounds_toArray, List.set_cons_zero, List.set_cons_succ]
              refine wpAnyH_take (i := 14) (v := _) (by simp only [List.getElem?_toArray, List.getElem?_cons_succ, List.getElem?_cons_zero]; rfl) (by kernel_rfl) (by kernel_rfl) (by kernel_rfl) (by exact fun _ _ _ h => h) (.inl ⟨by rfl, by (intro w hSw; obtain ⟨s0, s1⟩ := hSw); (go_simp; try rfl)⟩) hH ?_
              simp only [Act.put, List.setIfInBounds_toArray, List.set_cons_zero, List.set_cons_succ]
              refine wpAnyH_take (i := 15) (v := _) (by simp only [List.getElem?_toArray, List.getElem?_cons_succ, List.getElem?_cons_zero]; rfl) (by kernel_rfl) (by kernel_rfl) (by kernel_rfl) (by exact fun _ _ _ h => h) (.inl ⟨by rfl, by (intro w hSw; obtain ⟨s0, s1⟩ := hSw); (go_simp; try rfl)⟩) hH ?_
              simp only [Act.put, List.setIfInBounds_toArray, List.set_cons_zero, List.set_cons_succ]
              refine wpAnyH_take (i := 16) (v := _) (by simp only [List.getElem?_toArray, List.getElem?_cons_succ, List.getElem?_cons_zero]; rfl) (by kernel_rfl) (by kernel_rfl) (by kernel_rfl) (by exact fun _ _ _ h => h) (.inl ⟨by rfl, by (intro w hSw; obtain ⟨s0, s1⟩ := hSw); (go_simp; try rfl)⟩) hH ?_
              simp only [Act.put, List.setIfInBounds_toArray, List.set_cons_zero, List.set_cons_succ]
              refine wpAnyH_take (i := 17) (v := _) (by simp only [List.getElem?_toArray, List.getElem?_cons_succ, List.getElem?_cons_zero]; rfl) (by kernel_rfl) (by kernel_rfl) (by kernel_rfl) (by exact fun _ _ _ h => h) (.inl ⟨by rfl, by (intro w hSw; obtain ⟨s0, s1⟩ := hSw); (go_simp; try rfl)⟩) hH ?_
              simp only [Act.put, List.setIfInBounds_toArray, List.set_cons_zero, List.set_cons_succ]
              refine wpAnyH_take (i := 18) (v := _) (by simp only [List.getElem?_toArray, List.getElem?_cons_succ, List.getElem?_cons_zero]; rfl) (by kernel_rfl) (by kernel_rfl) (by kernel_rfl) (by exact fun _ _ _ h => h) (.inl ⟨by rfl, by (intro w hSw; obtain ⟨s0, s1⟩ := hSw); (go_simp; try rfl)⟩) hH ?_
              simp only [Act.put, List.setIfInBounds_toArray, List.set_cons_zero, List.set_cons_succ]
              refine wpAnyH_take (i := 19) (v := _) (by simp only [List.getElem?_toArray, List.getElem?_cons_succ, List.getElem?_cons_zero]; rfl) (by kernel_rfl) (by kernel_rfl) (by kernel_rfl) (by exact fun _ _ _ h => h) (.inl ⟨by rfl, by (intro w hSw; obtain ⟨s0, s1⟩ := hSw); (go_simp; try rfl)⟩) hH ?_
              simp only [Act.put, List.setIfInBounds_toArray, List.set_cons_zero, List.set_cons_succ]
              refine wpAnyH_ready (rs := [20]) (by kernel_rfl) (by simp) ?_
              refine AllReadyH.cons (by simp only [List.getElem?_toArray, List.getElem?_cons_succ, List.getElem?_cons_zero]; rfl) (fun K hK => ?_) AllReadyH.nil
              go_simp
              go_wp2_with (first | (go_at_call 21; refine (K1.out _ (by first | assumption | exact Sep.drew (by assumption))).mono ?_; rintro e w6 ⟨rfl, T1⟩) | (go_at_call 19; refine (K2.out _ (by first | assumption | exact Sep.drew (by assumption))).mono ?_; rintro e w6 ⟨rfl, T1, -⟩))
              clear hH
              refine hK.out _ _ ?_ (fun hH => ?_)
              · first | exact KK.out _ (by assumption) | exact KK.out _ (Sep.drew (by assumption))
              clear hK K
              refine wpAnyH_ready (rs := [21]) (by kernel_rfl) (by simp) ?_
              refine AllReadyH.cons (by simp only [List.getElem?_toArray, List.getElem?_cons_succ, List.getElem?_cons_zero]; rfl) (fun K hK => ?_) AllReadyH.nil
              go_simp
              go_wp2_with (first | (go_at_call 21; refine (K1.out _ (by first | assumption | exact Sep.drew (by assumption))).mono ?_; rintro e w6 ⟨rfl, T1⟩) | (go_at_call 19; refine (K2.out _ (by first | assumption | exact Sep.drew (by assumption))).mono ?_; rintro e w6 ⟨rfl, T1, -⟩))
              clear hH
              refine hK.out _ _ ?_ (fun hH => ?_)
              · first | exact KK.out _ (by assumption) | exact KK.out _ (Sep.drew (by assumption))
              clear hK K
              refine wpAnyH_take (i := 22) (v := _) (by simp only [List.getElem?_toArray, List.getElem?_cons_succ, List.getElem?_cons_zero]; rfl) (by kernel_rfl) (by kernel_rfl) (by kernel_rfl) (by exact fun _ _ _ h => h) (.inl ⟨by rfl, by (intro w hSw; obtain ⟨s0, s1⟩ := hSw); (go_simp; try rfl)⟩) hH ?_
              simp only [Act.put, List.setIfInBounds_toArray, List.set_cons_zero, List.set_cons_succ]
              refine wpAnyH_take (i := 23) (v := _) (by simp only [List.getElem?_toArray, List.getElem?_cons_succ, List.getElem?_cons_zero]; rfl) (by kernel_rfl) (by kernel_rfl) (by kernel_rfl) (by exact fun _ _ _ h => h) (.inl ⟨by rfl, by (intro w hSw; obtain ⟨s0, s1⟩ := hSw); (go_simp; try rfl)⟩) hH ?_
              simp only [Act.put, List.setIfInBounds_toArray, List.set_cons_zero, List.set_cons_succ]
              refine wpAnyH_done (by kernel_rfl) ?_ _
              go_wp2_with fail
              go_meet
              exact ⟨rfl, by assumption⟩
          case rest =>
            obtain ⟨rfl, S19⟩ := hcut
            have cn := hrest.out wc S19
            have I1 := Lib.hid (S19.refN n)
            clear S18 S19 K1 K2 hk0 hn
            go_wp2_with fail
            refine I1.out.mono ?_
            rintro e w20 ⟨rfl, S20⟩
            have I4 := S20.refs 2 HB.out.2.2 FT.out.G (by omega) (V.ref n hkn)
            rw [HeapM.refNs_ref] at I4
            have hlo := FT.out.G.refs_len n
            have FO := Lib.hid (FA.out.2.2.2.1 n HN.out.2.1)
            obtain ⟨O, hO⟩ : ∃ O, Hm.refsOf n = O := ⟨_, rfl⟩
            rw [hO] at I4 hlo FO
            have hlO : (O.length : Int) ≤ 100 := by omega
            replace I4 := Lib.hid I4
            clear I1 S20 cn hO hlo hlt
            go_wp2_with fail
            refine I4.out.mono ?_
            rintro e w21 ⟨ov, rfl, S21, -⟩
            obtain ⟨oa, oc, rfl⟩ := (S21.row 0 rfl).form
            have SS := Lib.hid S21
            clear I4 S21
            go_wp2
            go_loopw [11] (fun i wr => ∃ k : Nat, k ≤ O.length ∧ i = .int .i64 k ∧ Sep w (numsR (.slice oa O.length oc) O :: base) wr) (fun i _ => O.length - (intOf i).toNat)
            case atStart => exact ⟨0, by omega, rfl, SS.out⟩
            case round =>
              clear SS
              obtain ⟨z, hz, rfl, S22⟩ := hrel
              by_cases hlz : z < O.length
              · have hltz : (z : Int) < O.length := by omega
                obtain ⟨m, hm⟩ : ∃ m, O[z]? = some m := ⟨O[z], by simp [hlz]⟩
                obtain ⟨og, rfl⟩ := S22.numAddr 0 rfl hlz
                have cm := S22.numCell 0 rfl hm
                have I1 := S22.inN 1 (by simpa using HB.out.1) m
                rw [show decide (m ∈ R) = true by simpa using FO.out m (List.mem_of_getElem? hm)] at I1
                replace I1 := Lib.hid I1
                clear S22 hm
                go_wp2_with fail
                refine I1.out.mono ?_
                rintro e w23 ⟨rfl, S23⟩
                replace S23 := Lib.hid S23
                clear I1 cm
                go_wp2
                exact ⟨⟨z + 1, by omega, by go_num, S23.out⟩, by simp [intOf]; omega⟩
              · have hltz : ¬ (z : Int) < O.length := by omega
                have S23 := Lib.hid S22.tail
                clear S22 hlz
                go_wp2
                exact ⟨⟨k + 1, by have := HN.out.2.2; omega, by go_num, S23.out⟩, by have := HN.out.2.2; simp [intOf]; omega⟩
        · have hlti : ¬ (k : Int) < R.length := by omega
          have SS := Lib.hid S17.madeNums
          clear hlt S17
          go_wp2
          go_loopw [12, 13] (fun nv i wr => ∃ k : Nat, k ≤ L.length ∧ i = .int .i64 k ∧ Sep w (numsR nv (nearM Hm (L.take k)) :: base) wr) (fun _ i _ => L.length - (intOf i).toNat)
          case atStart => exact ⟨0, by omega, rfl, SS.out⟩
          case round =>
            clear SS
            obtain ⟨k, hk, rfl, S17⟩ := hrel
            obtain ⟨na, nc, rfl⟩ := (S17.row 0 rfl).form
            have hnl : (nearM Hm (L.take k)).length ≤ 12 := by have := near_len Hm (L.take k); have := HL.out; simp at *; omega
            obtain ⟨M, hM⟩ : ∃ M, nearM Hm (L.take k) = M := ⟨_, rfl⟩
            rw [hM] at S17 hnl ⊢
            by_cases hlt : k < L.length
            · have hlti : (k : Int) < L.length := by omega
              obtain ⟨v, hv⟩ : ∃ v, L[k]? = some v := ⟨L[k], by simp [hlt]⟩
              have hnext : nearM Hm (L.take (k + 1)) = if (Hm.of v).isSome = true then M ++ [v.n] else M := by
                rw [List.take_add_one, hv, Option.toList_some, near_snoc, hM]
              have HNX := Lib.hid (And.intro hnext (And.intro hlt hnl))
              obtain ⟨lg, rfl⟩ := Sep.valAddr S17 2 (by simpa using HB.out.2.1) hlt
              obtain ⟨x0, x1, x2⟩ := Sep.valCells S17 2 (by simpa using HB.out.2.1) hv
              have C1 := S17.kind 3 (by simpa using HB.out.2.2) v
              by_cases hs : (Hm.of v).isSome = true
              · obtain ⟨kd, hkd⟩ : ∃ x, Hm.kind v = x := ⟨_, rfl⟩
                rw [hkd] at C1
                have hne2 : ¬ kd = 0 := fun h0 => by rw [← hkd] at h0; rw [(FT.out.K.zero v).1 h0] at hs; cases hs
                have hne : (kd == 0) = false := by simpa using hne2
                have HV := Lib.hid (And.intro hv hs)
                replace C1 := Lib.hid C1
                clear S17 hv hlt hs hkd hnext hnl hM
                go_wp2_with fail
                refine C1.out.mono ?_
                rintro e w18 ⟨rfl, S18, -⟩
                obtain ⟨y0, y1, y2⟩ := Sep.valCells S18 2 (by simpa using HB.out.2.1) HV.out.1
                have S19 := Lib.hid S18
                clear S18 C1 x0 x1 x2
                go_wp2_with (at_builtin; refine wpList_push_sep rfl _ _ rfl (S19.out.later (belowAlloc _ _)) 0 rfl rfl _ _ rfl (cell_of_row _ _ _ _ _ _ (heapAllocNew _ _)) (by have := HNX.out.2.2; omega) ?_)
                intro va vc w20 S20
                replace S20 := Lib.hid S20
                clear S19 y0 y1 y2
                go_wp2
                refine ⟨⟨k + 1, by have := HNX.out.2.1; omega, by go_num, ?_⟩, by have := HNX.out.2.1; simp [intOf]; omega⟩
                rw [HNX.out.1, if_pos HV.out.2]; simpa using S20.out
              · have h0 : Hm.kind v = 0 := (FT.out.K.zero v).2 (by simpa using hs)
                rw [h0] at C1
                rw [if_neg hs] at hnext
                have HNX2 := Lib.hid hnext
                replace C1 := Lib.hid C1
                clear S17 hv hlt hs h0 hnext hnl hM HNX
                have HLT := Lib.hid hlti
                go_wp2_with fail
                refine C1.out.mono ?_
                rintro e w18 ⟨rfl, S18, -⟩
                replace S18 := Lib.hid S18
                clear C1 x0 x1 x2
                go_wp2
                exact ⟨⟨k + 1, by have := HLT.out; omega, by go_num, by rw [HNX2.out]; exact S18.out⟩, by have := HLT.out; simp [intOf]; omega⟩
            · have hlti : ¬ (k : Int) < L.length := by omega
              have hML : M = nearM Hm L := by rw [← hM, List.take_of_length_le (by omega)]
              have hMs : ∀ n ∈ M, (getL Hm.objs n).isSome = true := fun n hn => by rw [hML] at hn; exact (mem_near.1 hn).1
              have HM := Lib.hid (And.intro hML (And.intro hMs hnl))
              have SS : Hid (Sep w (numsR (.slice na M.length nc) (Hm.goK M 0) :: base) wr) := Lib.hid S17
              clear hlt hM hML hMs hnl S17
              go_wp2
              go_loopw [12, 14] (fun nv i wr => ∃ k : Nat, k ≤ (Hm.goK M k).length ∧ i = .int .i64 k ∧ Sep w (numsR nv (Hm.goK M k) :: base) wr) (fun _ i _ => 200 - (intOf i).toNat)
              case atStart => exact ⟨0, by omega, rfl, SS.out⟩
              case round =>
                clear SS
                obtain ⟨k, hk, rfl, S17⟩ := hrel
                obtain ⟨na, nc, rfl⟩ := (S17.row 0 rfl).form
                have hext := Ext.goK Hm M k
                have hgl : (Hm.goK M k).length ≤ 112 := by have := hext.len; have := HM.out.2.2; have := FT.out.G.len; omega
                have hgok : ∀ n ∈ Hm.goK M k, okI n := hext.ok FT.out.G (by omega) HM.out.2.1
                have hstep : ∀ n, (Hm.goK M k)[k]? = some n → Hm.goK M (k + 1) = addNew (Hm.goK M k) (Hm.refsOf n) := fun n hn => by
                  conv => lhs; unfold HeapM.goK
                  rw [hn]
                have hend := FA.out.2.2.2.2.2.1 k
                rw [← HM.out.1] at hend
                obtain ⟨Z, hZ⟩ : ∃ Z, Hm.goK M k = Z := ⟨_, rfl⟩
                rw [hZ] at S17 hk hext hgl hgok hstep hend ⊢
                have hlZ : (Z.length : Int) < 200 := by omega
                have hlZ2 : Z.length < 200 := by omega
                by_cases hlt : k < Z.length
                · have hlti : (k : Int) < Z.length := by omega
                  obtain ⟨n, hn⟩ : ∃ n, Z[k]? = some n := ⟨Z[k], by simp [hlt]⟩
                  have hkn := hgok n (List.mem_of_getElem? hn)
                  obtain ⟨zg, rfl⟩ := S17.numAddr 0 rfl hlt
                  have cn := S17.numCell 0 rfl hn
                  have I1 := Lib.hid (S17.refN n)
                  have HZ := Lib.hid (And.intro (hstep n hn) (And.intro hext (And.intro hlt hgl)))
                  clear S17 hext hgl hgok hstep hend hn hk hZ
                  go_wp2_with fail
                  refine I1.out.mono ?_
                  rintro e w20 ⟨rfl, S20⟩
                  have I4 := S20.refs 3 (by simpa using HB.out.2.2) FT.out.G (by omega) (V.ref n hkn)
                  rw [HeapM.refNs_ref] at I4
                  have hlo := FT.out.G.refs_len n
                  have hOl : ∀ m ∈ Hm.refsOf n, (getL Hm.objs m).isSome = true := Hm.refsOf_live n
                  obtain ⟨O, hO⟩ : ∃ O, Hm.refsOf n = O := ⟨_, rfl⟩
                  rw [hO] at I4 hlo hOl HZ
                  have hlO : (O.length : Int) ≤ 100 := by omega
                  have HO := Lib.hid hOl
                  replace I4 := Lib.hid I4
                  clear I1 S20 cn hO hlo hOl
                  go_wp2_with fail
                  refine I4.out.mono ?_
                  rintro e w21 ⟨ov, rfl, S21, -⟩
                  obtain ⟨oa, oc, rfl⟩ := (S21.row 0 rfl).form
                  have SS : Hid (Sep w (numsR (.slice oa O.length oc) O :: numsR (.slice (some ⟨zg, 0, none⟩) Z.length nc) (addNew Z (O.take 0)) :: base) w21) := Lib.hid S21
                  clear I4 S21
                  go_wp2
                  go_loopw [12, 16] (fun nv i wr => ∃ j : Nat, j ≤ O.length ∧ i = .int .i64 j ∧ Sep w (numsR (.slice oa O.length oc) O :: numsR nv (addNew Z (O.take j)) :: base) wr) (fun _ i _ => O.length - (intOf i).toNat)
                  case atStart => exact ⟨0, by omega, rfl, SS.out⟩
                  case round =>
                    clear SS
                    obtain ⟨j, hj, rfl, S22⟩ := hrel
                    obtain ⟨ya, yc, rfl⟩ := (S22.row 1 rfl).form
                    have hYe := HZ.out.2.1.addNew (r := O.take j) (fun m hm => HO.out m (List.mem_of_mem_take hm))
                    have hYl : (addNew Z (O.take j)).length ≤ 112 := by have := hYe.len; have := HM.out.2.2; have := FT.out.G.len; omega
                    have hsn : ∀ m, O[j]? = some m → addNew Z (O.take (j + 1)) = if m ∈ addNew Z (O.take j) then addNew Z (O.take j) else addNew Z (O.take j) ++ [m] := fun m hm => by
                      rw [List.take_add_one, hm, Option.toList_some, addNew_snoc]
                    have hfin : O.length ≤ j → addNew Z (O.take j) = Hm.goK M (k + 1) := fun h => by rw [List.take_of_length_le h, HZ.out.1]
                    obtain ⟨Y, hY⟩ : ∃ Y, addNew Z (O.take j) = Y := ⟨_, rfl⟩
                    rw [hY] at S22 hYl hsn hfin ⊢
                    by_cases hlj : j < O.length
                    · have hltj : (j : Int) < O.length := by omega
                      obtain ⟨m, hm⟩ : ∃ m, O[j]? = some m := ⟨O[j], by simp [hlj]⟩
                      obtain ⟨og, rfl⟩ := S22.numAddr 0 rfl hlj
                      have cm := S22.numCell 0 rfl hm
                      have I1 := S22.inN 1 rfl m
                      have hs1 := hsn m hm
                      by_cases hin : m ∈ Y
                      · rw [show decide (m ∈ Y) = true by simpa using hin] at I1
                        rw [if_pos hin] at hs1
                        have HS1 := Lib.hid (And.intro hs1 hlj)
                        replace I1 := Lib.hid I1
                        clear S22 hm hYe hYl hsn hfin hY hs1 hin hlj
                        go_wp2_with fail
                        refine I1.out.mono ?_
                        rintro e w23 ⟨rfl, S23⟩
                        replace S23 := Lib.hid S23
                        clear I1 cm
                        go_wp2
                        exact ⟨⟨j + 1, by have := HS1.out.2; omega, by go_num, by rw [HS1.out.1]; exact S23.out⟩, by have := HS1.out.2; simp [intOf]; omega⟩
                      · rw [show decide (m ∈ Y) = false by simpa using hin] at I1
                        rw [if_neg hin] at hs1
                        have HS1 := Lib.hid (And.intro hs1 (And.intro hlj (And.intro hm hYl)))
                        replace I1 := Lib.hid I1
                        clear S22 hm hYe hYl hsn hfin hY hs1 hin hlj
                        go_wp2_with fail
                        refine I1.out.mono ?_
                        rintro e w23 ⟨rfl, S23⟩
                        have cm2 := S23.numCell 0 rfl HS1.out.2.2.1
                        have S24 := Lib.hid S23
                        clear I1 cm S23
                        go_wp2_with (at_builtin; refine wpList_push_sep rfl _ _ rfl (S24.out.later (belowAlloc _ _)) 1 rfl rfl _ _ rfl (cell_of_row _ _ _ _ _ _ (heapAllocNew _ _)) (by have := HS1.out.2.2.2; omega) ?_)
                        intro va vc w25 S25
                        replace S25 := Lib.hid S25
                        clear S24 cm2
                        go_wp2
                        refine ⟨⟨j + 1, by have := HS1.out.2.1; omega, by go_num, ?_⟩, by have := HS1.out.2.1; simp [intOf]; omega⟩
                        rw [HS1.out.1]; simpa using S25.out
                    · have hltj : ¬ (j : Int) < O.length := by omega
                      have hf := hfin (by omega)
                      have S23 := Lib.hid S22.tail
                      have HF := Lib.hid hf
                      clear S22 hYe hYl hsn hfin hY hf hlj
                      go_wp2
                      refine ⟨⟨k + 1, ?_, by go_num, by rw [← HF.out]; exact S23.out⟩, by have := HZ.out.2.2; simp [intOf]; omega⟩
                      rw [HZ.out.1]
                      have := addNew_len Z O
                      have := HZ.out.2.2.1
                      omega
                · have hlti : ¬ (k : Int) < Z.length := by omega
                  have hall := hend (by omega)
                  have SS := Lib.hid S17
                  have HALL := Lib.hid hall
                  clear hlt S17 hext hgl hgok hstep hend hall hZ
                  go_wp2
                  go_loopw [17] (fun i wr => ∃ j : Nat, j ≤ R.length ∧ i = .int .i64 j ∧ Sep w (numsR (.slice na Z.length nc) Z :: base) wr) (fun i _ => R.length - (intOf i).toNat)
                  case atStart => exact ⟨0, by omega, rfl, SS.out⟩
                  case round =>
                    clear SS
                    obtain ⟨j, hj, rfl, S17⟩ := hrel
                    by_cases hlt : j < R.length
                    · have hltj : (j : Int) < R.length := by omega
                      obtain ⟨n, hn⟩ : ∃ n, R[j]? = some n := ⟨R[j], by simp [hlt]⟩
                      obtain ⟨rg, rfl⟩ := S17.numAddr 1 (by simpa using HB.out.1) hlt
                      have cn := S17.numCell 1 (by simpa using HB.out.1) hn
                      have I1 := S17.inN 0 rfl n
                      rw [show decide (n ∈ Z) = true by simpa using HALL.out n (List.mem_of_getElem? hn)] at I1
                      replace I1 := Lib.hid I1
                      clear S17 hn
                      go_wp2_with fail
                      refine I1.out.mono ?_
                      rintro e w18 ⟨rfl, S18⟩
                      replace S18 := Lib.hid S18
                      clear I1 cn
                      go_wp2
                      exact ⟨⟨j + 1, by omega, by go_num, S18.out⟩, by simp [intOf]; omega⟩
                    · have hltj : ¬ (j : Int) < R.length := by omega
                      have B := Lib.hid S17.below
                      clear S17 hlt
                      go_wp2
                      exact bodyPost_ret (v := .bool true) (by simp [results, Try.results4, go_sem]) rfl ⟨rfl, B.out⟩
set_option maxRecDepth 100000 in
theorem lifted (os : Os) (started : os.Started) (H : Type) (enc : TypeId × Value → H) :
    ReturnsInHanded {} Try.checked os 4 .any (Rows.collectReachedSpec.pre6 enc Try.prog Try.f4 Rows.collectReachedRow.domain false) (Rows.collectReachedSpec.post enc Try.prog Try.f4 false true false false) := by
  refine law_lift (C := Try.checked) own started (by kernel_rfl) Try.func4
    (ChangeSpec.witness6 (enc := enc) (C := Try.checked) false ⟨#[], #[.agg #[.slice none 0 0, .slice none 0 0, .slice none 0 0]], []⟩ 8 (by kernel_rfl) (by kernel_rfl) (by kernel_rfl) (by kernel_rfl))
    (by kernel_rfl) (by kernel_rfl) rfl (fun ds h => by
      match ds, h with
      | [d1], _ => exact ⟨rfl, rfl, rfl⟩) rfl Try.underlying4 ?_
  intro W base args ds ps hval hA hlt hwt hsh
  rw [Try.params4] at hA hval
  obtain ⟨v0, vs0, d0, ds0, p0, q0, hargs, rfl, rfl, h0, r0⟩ := trodAll_cons hA
  obtain ⟨rfl, rfl, rfl⟩ := trodAll_nil r0
  obtain rfl : args = #[v0] := by cases args; simp_all
  obtain ⟨cs0, rfl, hsz0⟩ := okWide_struct Try.underlying28 (hval 0 28 v0 rfl rfl)
  obtain ⟨fuel0, hf0⟩ := h0
  obtain ⟨kv0, ev0, hv0, gr0, e0, sg0⟩ := open_graph (cs := cs0.toList) hf0
  obtain rfl : cs0 = [kv0, ev0, hv0].toArray := by rw [← e0]
  -- WALK
  exact walk W _ _ _ gr0 sg0
theorem proved : Rows.CollectReachedSaid :=
  OpenClaim.holds_of_wide 4 Try.f4 rfl rfl rfl rfl rfl rfl rfl ⟨rfl, rfl, rfl, rfl, rfl⟩ rfl rfl rfl rfl rfl (by kernel_rfl) Try.func4 (by kernel_rfl)
    (of_decide_eq_true (by kernel_rfl)) (by unfold Func.isWrapper; first | (rw [if_pos (by decide +kernel)]; kernel_rfl) | (rw [if_neg (by decide +kernel)]; exact ⟨rfl, rfl⟩))
    (fun os started H enc _ => lifted os started H enc)
#print axioms proved
end Go.Proofs.Ytjinabglachglaa.collectReached
