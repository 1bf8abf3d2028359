/-
  HeapFrees: for any calls and numbers of bulk at most 1048576 the law returns true: just what is asked for is freed, and is no object from then on. Condition: the bulk (the second form).
-/
import Derived.Test.YtoancpjlkhijiaaCountsM
namespace Go.Proofs.Ytoancpjlkhijiaa.heapFrees
set_option linter.unusedSimpArgs false
open Go.ChangeShapes Go.WideShapes Go.ChangeAt Go.RowKit
set_option linter.unusedVariables false
section
variable {H : Type} {enc : TypeId × Value → H} {w : World} {base : Nat} {spare : Nat → Bool} {held : Bool}
/-- A row of numbers that came in. -/
theorem open_nums {fuel : Nat} {v : Value} {x : DataW H × List MemPlace} (h : DataW.trod enc Try.prog w base spare held fuel 36 [v] = some x) : ∃ l : List Int, SeesN w v l ∧ Arg w [] v ∧ ∀ n ∈ l, okI n := by
  rcases Deep.open_slice1 Try.underlying36 cells1.2.1 h with ⟨h0, _⟩ | ⟨a, len, cap, m, n, V, D, Pl, hcs, hb, hl, hm, hmm, hx, hi⟩
  · simp only [List.cons.injEq, and_true] at h0
    subst h0
    exact ⟨[], ⟨none, 0, rfl, by simp, by simp, .inl rfl⟩, (fun g o n c e => by cases e), by simp⟩
  · simp only [List.cons.injEq, and_true] at hcs
    subst hcs
    have hlm : len ≤ m := by rw [hmm]; split <;> omega
    obtain ⟨f, hf⟩ : ∃ f : Nat → Int, ∀ i, i < len → w.cell? (a.add i) = some (.int .i64 (f i)) ∧ okI (f i) :=
      Deep.choose_lt (α := Int) (p := fun i n => w.cell? (a.add i) = some (.int .i64 n) ∧ okI n) (fun i hil => by
        obtain ⟨h1, h2⟩ := hi i (by omega)
        obtain ⟨k, e0, _, hk⟩ := DataW.trod_int Try.underlying2 h2
        simp only [List.cons.injEq, and_true] at e0
        exact ⟨k, by rw [h1, e0], hk⟩)
    have hlen : ((List.range len).map f).length = len := by simp
    obtain ⟨g, o, spot⟩ := a
    have hadd : ∀ j, (⟨g, o, none⟩ : Addr).add j = ⟨g, o + j, none⟩ := fun j => by unfold Addr.add; split <;> simp_all
    refine ⟨(List.range len).map f, ⟨some ⟨g, o, spot⟩, cap, by rw [hlen], by rw [hlen]; exact hl, hm, ?_⟩, fun g' o' n' c' e h0 => ?_, fun n hn => ?_⟩
    · rcases Nat.eq_zero_or_pos len with h0 | h0
      · left; subst h0; rfl
      · right
        have hs : spot = none := by
          have := (hf 0 h0).1
          simpa [Addr.add] using World.cell?_spot this
        subst hs
        refine ⟨g, o, rfl, fun i v hj => ?_⟩
        have hil : i < len := by have := (List.getElem?_eq_some_iff.1 hj).1; rwa [hlen] at this
        have hv' : f i = v := by rw [List.getElem?_map, List.getElem?_range hil] at hj; exact Option.some.inj hj
        rw [← hadd, ← hv']; exact (hf i hil).1
    · cases e
      have := World.block_lt_of_cell? w _ (hf 0 h0).1
      exact .inl (by simpa [Addr.add] using this)
    · obtain ⟨i, hi', rfl⟩ := List.mem_map.1 hn
      exact (hf i (List.mem_range.1 hi')).2
end
theorem drop_objs (H : HeapM) (n : Int) : (H.drop n).objs = H.objs.filter fun p => !decide (p.1 = n) := rfl
theorem freeAll_objs (H : HeapM) (ns : List Int) : (H.freeAll ns).objs = H.objs.filter fun p => !decide (p.1 ∈ ns) := by
  induction ns generalizing H with
  | nil => show H.objs = _; rw [List.filter_eq_self.2]; intro p _; simp
  | cons n r ih =>
    show ((H.drop n).freeAll r).objs = _
    rw [ih, drop_objs, List.filter_filter]
    refine List.filter_congr fun p _ => ?_
    by_cases h1 : p.1 = n <;> by_cases h2 : p.1 ∈ r <;> simp [h1, h2]
theorem drop_len {l : List (Int × ObjM)} (hn : (l.map (·.1)).Nodup) (n : Int) : (getL l n).isSome.toNat + (l.filter fun p => !decide (p.1 = n)).length = l.length := by
  cases g : getL l n with
  | none => have := delL_none g; unfold delL at this; rw [this]; simp
  | some o => have := delL_length hn g; unfold delL at this; simp only [Option.isSome_some, Bool.toNat_true]; omega
theorem freed_len {H : HeapM} (hn : (H.objs.map (·.1)).Nodup) (ns : List Int) : H.freed ns + (H.freeAll ns).objs.length = H.objs.length := by
  induction ns generalizing H with
  | nil => simp [HeapM.freed, HeapM.freeAll]
  | cons n r ih =>
    have h1 := drop_len hn n
    have h2 : ((H.drop n).objs.map (·.1)).Nodup := (List.filter_sublist.map _).nodup hn
    have h3 := ih h2
    show (getL H.objs n).isSome.toNat + (H.drop n).freed r + ((H.drop n).freeAll r).objs.length = _
    rw [← drop_objs] at h1
    omega
theorem freeAll_keys (H : HeapM) (ns : List Int) : (H.freeAll ns).objs.map (·.1) = (H.objs.map (·.1)).filter fun n => !decide (n ∈ ns) := by
  rw [freeAll_objs, List.filter_map]; rfl
theorem freeAll_gone (H : HeapM) {ns : List Int} {n : Int} (h : n ∈ ns) (hn : okI n) : (H.freeAll ns).of (V.ref n hn) = none := by
  unfold HeapM.of
  rw [if_pos (show (V.ref n hn).kind = 4 from rfl)]
  show getL (H.freeAll ns).objs n = none
  rw [getL_none, freeAll_objs]
  intro p hp e
  have := (List.mem_filter.1 hp).2
  rw [e] at this; simp [h] at this
def wantM (L ns : List Int) : List Int := L.filter fun n => !decide (n ∈ ns)
theorem wantM_snoc (L ns : List Int) (n : Int) : wantM (L ++ [n]) ns = if n ∈ ns then wantM L ns else wantM L ns ++ [n] := by
  unfold wantM
  rw [List.filter_append]
  by_cases h : n ∈ ns <;> simp [h]
set_option maxRecDepth 100000 in
set_option maxHeartbeats 1600000 in
theorem big (w : World) (s t : Value) (l : List OpM) (E : List Int) (hs : SeesO w s l) (ht : SeesN w t E) (hN : opsW l ≤ 3000000) (hb : bigM l = true) :
    Calls Try.prog 8 #[s, t] w (LawTrue w) := by
  have M := Lib.hid (lawMade_any w s l hs hN)
  have HS := Lib.hid hs
  obtain ⟨a, ac, rfl, -, -, -, -⟩ := hs
  obtain ⟨b, bc, rfl, -, -, -⟩ := ht
  have HB := Lib.hid hb
  clear hb hN
  go_enter Try.func8, Try.ntmps8
  go_wp2_with fail
  refine M.out.mono ?_
  rintro e w1 ⟨h, rfl, A1⟩
  have B1 := Lib.hid A1.below
  have C := big_ok w1 _ l (seesO_below HS.out B1.out)
  rw [HB.out] at C
  have C' := Lib.hid C
  clear A1 C
  go_wp2_with fail
  refine C'.out.mono ?_
  rintro e w2 ⟨rfl, q, rfl⟩
  have B2 := Lib.hid (Below.drewN B1.out q)
  obtain ⟨w2, hw2⟩ : ∃ w2, w1.drewN q = w2 := ⟨_, rfl⟩
  rw [hw2] at B2 ⊢
  clear hw2
  have C := big_ok w2 _ l (seesO_below HS.out B2.out)
  rw [HB.out] at C
  have C2 := Lib.hid C
  clear C C'
  go_wp2_with fail
  refine C2.out.mono ?_
  rintro e w3 ⟨rfl, q, rfl⟩
  have B3 := Lib.hid (Below.drewN B2.out q)
  obtain ⟨w3, hw3⟩ : ∃ w3, w2.drewN q = w3 := ⟨_, rfl⟩
  rw [hw3] at B3 ⊢
  clear hw3 C2
  go_wp2
  go_ret
  exact ⟨rfl, B3.out⟩
set_option maxRecDepth 100000 in
set_option maxHeartbeats 1600000 in
theorem far (w : World) (s t : Value) (l : List OpM) (E : List Int) (hs : SeesO w s l) (ht : SeesN w t E) (hN : opsW l ≤ 3000000) (hb : bigM l = false) (hE : 60 < E.length) :
    Calls Try.prog 8 #[s, t] w (LawTrue w) := by
  have M := Lib.hid (lawMade_any w s l hs hN)
  have HS := Lib.hid hs
  obtain ⟨a, ac, rfl, -, -, -, -⟩ := hs
  obtain ⟨b, bc, rfl, -, -, -⟩ := ht
  have HB := Lib.hid hb
  have hE' : (60 : Int) < E.length := by omega
  clear hb hN hE
  go_enter Try.func8, Try.ntmps8
  go_wp2_with fail
  refine M.out.mono ?_
  rintro e w1 ⟨h, rfl, A1⟩
  have B1 := Lib.hid A1.below
  have C := big_ok w1 _ l (seesO_below HS.out B1.out)
  rw [HB.out] at C
  have C' := Lib.hid C
  clear A1 C
  go_wp2_with fail
  refine C'.out.mono ?_
  rintro e w2 ⟨rfl, q, rfl⟩
  have B2 := Lib.hid (Below.drewN B1.out q)
  obtain ⟨w2, hw2⟩ : ∃ w2, w1.drewN q = w2 := ⟨_, rfl⟩
  rw [hw2] at B2 ⊢
  clear hw2
  have C := big_ok w2 _ l (seesO_below HS.out B2.out)
  rw [HB.out] at C
  have C2 := Lib.hid C
  clear C C'
  go_wp2_with fail
  refine C2.out.mono ?_
  rintro e w3 ⟨rfl, q, rfl⟩
  have B3 := Lib.hid (Below.drewN B2.out q)
  obtain ⟨w3, hw3⟩ : ∃ w3, w2.drewN q = w3 := ⟨_, rfl⟩
  rw [hw3] at B3 ⊢
  clear hw3 C2
  go_wp2
  go_ret
  exact ⟨rfl, B3.out⟩
set_option maxRecDepth 100000 in
set_option maxHeartbeats 3200000 in
theorem small (w : World) (s t : Value) (l : List OpM) (E : List Int) (hs : SeesO w s l) (ht : SeesN w t E) (hta : Arg w [] t) (hoE : ∀ n ∈ E, okI n) (hN : opsW l ≤ 3000000) (hb : bigM l = false) (hE : E.length ≤ 60) :
    Calls Try.prog 8 #[s, t] w (LawTrue w) := by
  have M := Lib.hid (lawMade_any w s l hs hN)
  have HS := Lib.hid hs
  have HT := Lib.hid (And.intro ht (And.intro hta (And.intro hE hoE)))
  have HG := Lib.hid (And.intro ((madeM_goodW l).more hN) (madeM_kinds l))
  obtain ⟨a, ac, rfl, -, -, -, -⟩ := hs
  obtain ⟨b, bc, rfl, -, -, hcells⟩ := ht
  have HTC := Lib.hid hcells
  have HB := Lib.hid hb
  have hE' : (E.length : Int) ≤ 60 := by omega
  clear hb hN hE hta hcells hoE
  go_enter Try.func8, Try.ntmps8
  go_wp2_with fail
  refine M.out.mono ?_
  rintro e w1 ⟨h, rfl, A1⟩
  have S1 := Lib.hid (sep_of A1)
  generalize madeM l = H at *
  have C := big_ok w1 _ l (seesO_below HS.out S1.out.below)
  rw [HB.out] at C
  have C' := Lib.hid C
  clear A1 C M
  go_wp2_with fail
  refine C'.out.mono ?_
  rintro e w2 ⟨rfl, q, rfl⟩
  have S2 := Lib.hid (S1.out.drewN q)
  obtain ⟨w2, hw2⟩ : ∃ w2, w1.drewN q = w2 := ⟨_, rfl⟩
  rw [hw2] at S2 ⊢
  clear hw2 C' S1
  go_wp2_with fail
  refine (S2.out.all 0 rfl HG.out.1 (by omega)).mono ?_
  rintro e w3 ⟨rv, rfl, S3, hb3⟩
  have hl0 : (H.objs.map (·.1)).length = H.objs.length := by simp
  have hg0 := HG.out.1.len
  have hnum := HeapM.keys_nums HG.out.1
  have hok := hnum.ok HG.out.1 (by omega)
  have hfr := freed_len HG.out.1.ok.nk E
  have hkeys : (H.freeAll E).objs.map (·.1) = wantM (H.objs.map (·.1)) E := freeAll_keys H E
  have hwl : (wantM (H.objs.map (·.1)) E).length = (H.freeAll E).objs.length := by rw [← hkeys]; simp
  have GF := HG.out.1.freeAll E
  have HFR := Lib.hid (fun (A B : Res) W (S : Sep w [A, B, heapR h H] W) => S.free 2 rfl HG.out.1 (by omega) _ E (by
    obtain ⟨a', c', e, h1, h2, h3⟩ := HT.out.1
    refine ⟨a', c', e, h1, h2, ?_⟩
    rcases h3 with h3 | ⟨g, o, h3, h4⟩
    · exact .inl h3
    · exact .inr ⟨g, o, h3, fun i n hn => cellBelow (h4 i n hn) S.below⟩) (ArgS.old HT.out.2.1) HT.out.2.2.2)
  have HAL := Lib.hid (fun (A B : Res) W (S : Sep w [A, B, heapR h (H.freeAll E)] W) => (by
    have := S.all 2 rfl GF (by omega)
    rw [hkeys] at this; exact this : Calls Try.prog 29 #[.pointer (some ⟨h, 0, none⟩)] W fun e W' => ∃ sv, e = .returned sv ∧ Sep w [numsR sv (wantM (H.objs.map (·.1)) E), A, B, heapR h (H.freeAll E)] W' ∧ Below W.heap.size W W'))
  generalize H.objs.map (·.1) = L at *
  obtain ⟨la, lc, rfl⟩ := (S3.row 0 rfl).form
  have HL := Lib.hid (And.intro hok (And.intro hl0 (And.intro hg0 (And.intro hfr (And.intro hwl GF)))))
  have b0 : (L.length : Int) ≤ 3000000 := by omega
  have S4 := Lib.hid S3.madeNums
  clear hok hl0 hg0 hfr hkeys hwl GF hnum S3 S2 hb3
  go_wp2
  go_loopw [7, 8] (fun wv i wr => ∃ k : Nat, k ≤ L.length ∧ i = .int .i64 k ∧ Sep w [numsR wv (wantM (L.take k) E), numsR (.slice la L.length lc) L, heapR h H] wr) (fun _ i _ => L.length - (intOf i).toNat)
  case atStart => exact ⟨0, by omega, rfl, S4.out⟩
  case round =>
    clear S4
    obtain ⟨k, hk, rfl, S5⟩ := hrel
    obtain ⟨va, vc, rfl⟩ := (S5.row 0 rfl).form
    by_cases hlt : k < L.length
    · obtain ⟨n, hn⟩ : ∃ n, L[k]? = some n := ⟨L[k], by simp [hlt]⟩
      obtain ⟨g, rfl⟩ := S5.numAddr 1 rfl hlt
      have c0 := S5.numCell 1 rfl hn
      have hil : (k : Int) < L.length := by omega
      have hws := wantM_snoc (L.take k) E n
      rw [show L.take k ++ [n] = L.take (k + 1) by rw [List.take_add_one, hn]; rfl] at hws
      have hwl2 : (wantM (L.take k) E).length + 1 ≤ 17592186044416 := by
        have h1 : (wantM (L.take k) E).length ≤ (L.take k).length := List.length_filter_le _ _
        rw [List.length_take] at h1; omega
      have I := Lib.hid (in_ok wr _ E n (by
        obtain ⟨a', c', e, h1, h2, h3⟩ := HT.out.1
        refine ⟨a', c', e, h1, h2, ?_⟩
        rcases h3 with h3 | ⟨g, o, h3, h4⟩
        · exact .inl h3
        · exact .inr ⟨g, o, h3, fun i n hn => cellBelow (h4 i n hn) S5.below⟩))
      generalize wantM (L.take k) E = T at *
      have HC0 := Lib.hid (fun W (S : Sep w [numsR (.slice va T.length vc) T, numsR (.slice (some ⟨g, 0, none⟩) L.length lc) L, heapR h H] W) => S.numCell 1 rfl hn)
      have HX := Lib.hid (And.intro hws (And.intro hlt hwl2))
      replace S5 := Lib.hid S5
      clear hn hws hwl2 hlt
      go_wp2_with fail
      refine I.out.mono ?_
      rintro e w4 ⟨rfl, q, rfl⟩
      have S6 := S5.out.drewN q
      have c1 := HC0.out _ S6
      replace S6 := Lib.hid S6
      obtain ⟨w4, hw4⟩ : ∃ w4, wr.drewN q = w4 := ⟨_, rfl⟩
      rw [hw4] at S6 c1 ⊢
      clear hw4 c0 S5 I
      by_cases hm : n ∈ E
      · have hm' : decide (n ∈ E) = true := by simpa using hm
        have HM := Lib.hid hm
        rw [hm']
        clear hm hm'
        go_wp2
        refine ⟨⟨k + 1, by have := HX.out.2.1; omega, by go_num, ?_⟩, by have := HX.out.2.1; simp [intOf]; omega⟩
        rw [HX.out.1, if_pos HM.out]; exact S6.out
      · have hm' : decide (n ∈ E) = false := by simpa using hm
        have HM := Lib.hid hm
        rw [hm']
        clear hm hm'
        go_wp2_with (at_builtin; refine wpList_push_sep rfl _ _ rfl (S6.out.later (belowAlloc _ _)) 0 rfl rfl _ _ rfl (cell_of_row _ _ _ _ _ _ (heapAllocNew _ _)) HX.out.2.2 ?_)
        intro xa xc w5 S7
        replace S7 := Lib.hid S7
        go_wp2
        refine ⟨⟨k + 1, by have := HX.out.2.1; omega, by go_num, ?_⟩, by have := HX.out.2.1; simp [intOf]; omega⟩
        rw [HX.out.1, if_neg HM.out]; exact S7.out
    · obtain rfl : k = L.length := by omega
      rw [List.take_length] at S5 ⊢
      have Z := Lib.hid (HFR.out _ _ _ S5)
      have hwl := HL.out.2.2.2.2.1
      have hfr := HL.out.2.2.2.1
      have hl0 := HL.out.2.1
      have hfb : ((H.freed E : Int) == (L.length : Int) - ((wantM L E).length : Int)) = true := by rw [beq_iff_eq]; omega
      have b1 : ((wantM L E).length : Int) ≤ 3000000 := by omega
      have HTW := Lib.hid (show ∀ n ∈ wantM L E, n ∈ L from fun n hn => (List.mem_filter.1 hn).1)
      generalize wantM L E = T at *
      generalize H.freed E = f at *
      clear hwl hfr hl0 S5 hlt
      go_wp2_with fail
      refine Z.out.mono ?_
      rintro e w4 ⟨rfl, S6⟩
      replace S6 : Sep w [numsR (.slice va T.length vc) T, numsR (.slice la L.length lc) L, heapR h (H.freeAll E)] w4 := S6
      replace S6 := Lib.hid S6
      clear Z
      go_wp2
      go_loopw [10] (fun i wr => ∃ k : Nat, k ≤ E.length ∧ i = .int .i64 k ∧ Sep w [numsR (.slice va T.length vc) T, numsR (.slice la L.length lc) L, heapR h (H.freeAll E)] wr) (fun i _ => E.length - (intOf i).toNat)
      case atStart => exact ⟨0, by omega, rfl, S6.out⟩
      case round =>
        clear S6
        obtain ⟨k, hk, rfl, S7⟩ := hrel
        by_cases hlt : k < E.length
        · obtain ⟨n, hn⟩ : ∃ n, E[k]? = some n := ⟨E[k], by simp [hlt]⟩
          have hkn := HT.out.2.2.2 n (List.mem_of_getElem? hn)
          obtain ⟨g, o, rfl, hc⟩ : ∃ g o, b = some ⟨g, o, none⟩ ∧ ∀ i n, E[i]? = some n → w.cell? ⟨g, o + i, none⟩ = some (.int .i64 n) := by
            rcases HTC.out with h | h
            · subst h; simp at hlt
            · exact h
          have c0 := cellBelow (hc k n hn) S7.below
          have hof := freeAll_gone H (List.mem_of_getElem? hn) hkn
          have k1 : (H.freeAll E).kind (V.ref n hkn) = 0 := by simp [HeapM.kind, hof]
          have k2 : (H.freeAll E).count (V.ref n hkn) = 0 := by simp [HeapM.count, hof]
          have k3 : (H.freeAll E).refNs (V.ref n hkn) = [] := by simp [HeapM.refNs, hof]
          have k4 : (H.freeAll E).setNum (V.ref n hkn) 1 (by decide) = H.freeAll E := by simp [HeapM.setNum, hof]
          have k5 : (H.freeAll E).put (V.ref n hkn) V.zero (V.ref n hkn) = H.freeAll E := by simp [HeapM.put, hof]
          have k6 : (H.freeAll E).canPut (V.ref n hkn) V.zero = false := by simp [HeapM.canPut, hof]
          have GF := HL.out.2.2.2.2.2
          have HN0 := Lib.hid hn
          have HOF := Lib.hid (And.intro k1 (And.intro k2 (And.intro k3 (And.intro k4 (And.intro k5 k6)))))
          have HLT := Lib.hid hlt
          replace S7 := Lib.hid S7
          clear k1 k2 k3 k4 k5 k6 hof hn hc hlt
          go_wp2_with fail
          refine (ref_ok wr n).mono ?_
          rintro e w5 ⟨rfl, hb1⟩
          have S8 := (S7.out.later hb1).alloc (valObj (V.ref n hkn))
          obtain ⟨k1, k2, k3, k4, k5, k6⟩ := HOF.out
          have K1 := Lib.hid (fun W (S : Sep w [boxR w5.heap.size (valObj (V.ref n hkn)), numsR (.slice va T.length vc) T, numsR (.slice la L.length lc) L, heapR h (H.freeAll E)] W) => k1 ▸ S.kind 3 rfl (V.ref n hkn))
          have K2 := Lib.hid (fun W (S : Sep w [boxR w5.heap.size (valObj (V.ref n hkn)), numsR (.slice va T.length vc) T, numsR (.slice la L.length lc) L, heapR h (H.freeAll E)] W) => k2 ▸ S.count 3 rfl GF (by omega) (V.ref n hkn))
          have K3 := Lib.hid (fun W (S : Sep w [boxR w5.heap.size (valObj (V.ref n hkn)), numsR (.slice va T.length vc) T, numsR (.slice la L.length lc) L, heapR h (H.freeAll E)] W) => k3 ▸ S.refs 3 rfl GF (by omega) (V.ref n hkn))
          have K4 := Lib.hid (fun W (S : Sep w [boxR w5.heap.size (valObj (V.ref n hkn)), numsR (.slice va T.length vc) T, numsR (.slice la L.length lc) L, heapR h (H.freeAll E)] W) => (by
            have := S.setNum 3 rfl (V.ref n hkn) 1 (by decide)
            rw [k4, freeAll_gone H (List.mem_of_getElem? (HN0.out)) hkn] at this; exact this : Calls Try.prog 36 #[.pointer (some ⟨h, 0, none⟩), (V.ref n hkn).val, .int .i64 1] W fun e W' => e = .returned (.bool false) ∧ Sep w [boxR w5.heap.size (valObj (V.ref n hkn)), numsR (.slice va T.length vc) T, numsR (.slice la L.length lc) L, heapR h (H.freeAll E)] W'))
          have K5 := Lib.hid (fun W (S : Sep w [boxR w5.heap.size (valObj (V.ref n hkn)), numsR (.slice va T.length vc) T, numsR (.slice la L.length lc) L, heapR h (H.freeAll E)] W) => (by
            have := S.put 3 rfl (V.ref n hkn) V.zero (V.ref n hkn)
            rw [k5, k6] at this; exact this : Calls Try.prog 37 #[.pointer (some ⟨h, 0, none⟩), (V.ref n hkn).val, V.zero.val, (V.ref n hkn).val] W fun e W' => e = .returned (.bool false) ∧ Sep w [boxR w5.heap.size (valObj (V.ref n hkn)), numsR (.slice va T.length vc) T, numsR (.slice la L.length lc) L, heapR h (H.freeAll E)] W'))
          have VB : Hid (∀ W, Sep w [boxR w5.heap.size (valObj (V.ref n hkn)), numsR (.slice va T.length vc) T, numsR (.slice la L.length lc) L, heapR h (H.freeAll E)] W → W.cell? ⟨w5.heap.size, 0, none⟩ = some (.int .i64 4) ∧ W.cell? ⟨w5.heap.size, 1, none⟩ = some (.int .i64 n) ∧ W.cell? ⟨w5.heap.size, 2, none⟩ = some (.string ⟨#[]⟩)) := Lib.hid fun W S => by
            obtain ⟨x0, x1, x2, -⟩ := valBlkO (S.box 0 rfl)
            exact ⟨x0, x1, x2⟩
          clear k1 k2 k3 k4 k5 k6 hb1 c0 S7
          simp only [V.val, V.ref, V.zero] at K1 K2 K3 K4 K5
          replace S8 := Lib.hid S8
          go_wp2_with fail
          refine (K1.out _ S8.out).mono ?_
          rintro e w6 ⟨rfl, S9, -⟩
          obtain ⟨x0, x1, x2⟩ := VB.out _ S9
          replace S9 := Lib.hid S9
          clear S8 K1
          go_wp2_with fail
          refine (K2.out _ S9.out).mono ?_
          rintro e w7 ⟨rfl, S10, -⟩
          obtain ⟨y0, y1, y2⟩ := VB.out _ S10
          replace S10 := Lib.hid S10
          clear S9 K2 x0 x1 x2
          go_wp2_with fail
          refine (K3.out _ S10.out).mono ?_
          rintro e w8 ⟨sv, rfl, S11, -⟩
          obtain ⟨ra, rc, rfl⟩ := (S11.row 0 rfl).form
          replace S11 := Lib.hid S11.tail
          obtain ⟨x0, x1, x2⟩ := VB.out _ S11.out
          clear S10 K3 y0 y1 y2
          go_wp2_with fail
          refine (K4.out _ S11.out).mono ?_
          rintro e w9 ⟨rfl, S12⟩
          obtain ⟨y0, y1, y2⟩ := VB.out _ S12
          replace S12 := Lib.hid S12
          clear S11 K4 x0 x1 x2
          go_wp2_with fail
          refine (K5.out _ S12.out).mono ?_
          rintro e w10 ⟨rfl, S13⟩
          replace S13 := Lib.hid S13.tail
          clear S12 K5 y0 y1 y2 VB
          go_wp2
          exact ⟨⟨k + 1, by have := HLT.out; omega, by go_num, S13.out⟩, by have := HLT.out; simp [intOf]; omega⟩
        · obtain rfl : k = E.length := by omega
          replace S7 := Lib.hid S7
          clear hlt
          go_wp2_with fail
          refine (kept_ok _).mono ?_
          rintro e w5 ⟨rfl, hb5⟩
          have S8 := Lib.hid (S7.out.later hb5)
          clear hb5 S7
          go_wp2_with fail
          refine (HAL.out _ _ _ S8.out).mono ?_
          rintro e w6 ⟨rv, rfl, S9, hb6⟩
          obtain ⟨ra, rc, rfl⟩ := (S9.row 0 rfl).form
          have C := same_numbers w6 _ _ T T (SeesN.of_slIs (S9.row 0 rfl)) (SeesN.of_slIs (S9.row 1 rfl)) (by
            have : ∀ n ∈ T, okI n := fun n hn => HL.out.1 n (HTW.out n hn)
            exact ⟨this, this⟩)
          rw [show decide (T = T) = true by simp] at C
          replace C := Lib.hid C
          replace S9 := Lib.hid S9
          clear S8 hb6
          go_wp2_with fail
          refine C.out.mono ?_
          rintro e w7 ⟨rfl, q, rfl⟩
          have B := Lib.hid (S9.out.drewN q).below
          obtain ⟨w7, hw7⟩ : ∃ w7, w6.drewN q = w7 := ⟨_, rfl⟩
          rw [hw7] at B ⊢
          clear hw7 C S9
          go_wp2
          go_ret
          exact ⟨rfl, B.out⟩
set_option maxRecDepth 100000 in
theorem lifted (os : Os) (started : os.Started) (H : Type) (enc : TypeId × Value → H) (F : Stop.Interp) :
    ReturnsInHanded {} Try.checked os 8 .any ((Rows.OpenSpec.upto Rows.heapFreesSpec).pre6 enc Try.prog Try.f8 Rows.heapFreesUptoRow.domain false) (((Rows.OpenSpec.upto Rows.heapFreesSpec).at F).post enc Try.prog Try.f8 false true false false) := by
  refine law_lift_upto (C := Try.checked) own started (by kernel_rfl) Try.func8
    (OpenSpec.witness (enc := enc) (C := Try.checked) (s := Rows.OpenSpec.upto Rows.heapFreesSpec) (k := Rows.uptoSmall) rfl false ⟨#[], #[.slice none 0 0, .slice none 0 0], []⟩ 8 (by kernel_rfl) (by kernel_rfl) (by kernel_rfl)
      (x := ([.nil, .nil], [], [])) (by kernel_rfl) rfl (by kernel_rfl))
    (by kernel_rfl) (by kernel_rfl) rfl (fun ds h => by
      match ds, h with
      | [d1, d2], _ => exact ⟨rfl, rfl, rfl⟩) rfl Try.underlying4 ?_
  intro W base args ds ps hval hA hlt hbk hwt hsh
  rw [Try.params8] at hA hval
  obtain ⟨v0, vs0, d0, ds0, p0, q0, hargs, rfl, rfl, h0, r0⟩ := trodAll_cons hA
  obtain ⟨v1, vs1, d1, ds1, p1, q1, rfl, rfl, rfl, h1, r1⟩ := trodAll_cons r0
  obtain ⟨rfl, rfl, rfl⟩ := trodAll_nil r1
  obtain rfl : args = #[v0, v1] := by cases args; simp_all
  obtain ⟨x0, len0, cap0, rfl⟩ := okWide_slice Try.underlying33 (hval 0 33 v0 rfl rfl)
  obtain ⟨fuel0, hf0⟩ := h0
  obtain ⟨l0, s0, b0⟩ := open_ops (v := .slice x0 len0 cap0) hf0
  obtain ⟨x1, len1, cap1, rfl⟩ := okWide_slice Try.underlying36 (hval 1 36 v1 rfl rfl)
  obtain ⟨fuel1, hf1⟩ := h1
  obtain ⟨l1, s1, g1, k1⟩ := open_nums (v := .slice x1 len1 cap1) hf1
  -- WALK
  simp only [Rows.uptoBulkAll] at hbk
  have hN : opsW l0 ≤ 3000000 := by have h0 : opsW l0 ≤ Rows.uptoBulk d0 := b0; omega
  cases hb : bigM l0 with
  | true => exact big W _ _ l0 l1 s0 s1 hN hb
  | false =>
    by_cases hE : l1.length ≤ 60
    · exact small W _ _ l0 l1 s0 s1 g1 k1 hN hb hE
    · exact far W _ _ l0 l1 s0 s1 hN hb (by omega)
theorem proved : Rows.HeapFreesUptoSaid :=
  OpenClaim.holds_of_cond 8 Try.f8 rfl rfl rfl rfl rfl rfl rfl ⟨rfl, rfl, rfl, rfl, rfl⟩ rfl rfl rfl rfl rfl (by kernel_rfl) Try.func8 (by kernel_rfl)
    (of_decide_eq_true (by kernel_rfl)) (by unfold Func.isWrapper; first | (rw [if_pos (by decide +kernel)]; kernel_rfl) | (rw [if_neg (by decide +kernel)]; exact ⟨rfl, rfl⟩))
    (fun os started H enc _ F => lifted os started H enc F)
#print axioms proved
end Go.Proofs.Ytoancpjlkhijiaa.heapFrees
