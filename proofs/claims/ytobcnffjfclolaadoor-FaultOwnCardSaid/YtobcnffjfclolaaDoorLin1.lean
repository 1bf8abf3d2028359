import Derived.Test.YtobcnffjfclolaaDoorObjC
import Derived.Test.YtobcnffjfclolaaDoorC3
import Derived.Test.YtobcnffjfclolaaDoorRows3
/- linear: what stands behind; slices' Index, Contains, IndexFunc, ContainsFunc, Clone, Clip at its types. -/
namespace Go.Proofs.YtobcnffjfclolaaDoor
set_option linter.unusedSimpArgs false
open Go.RowKit
set_option linter.unusedVariables false
theorem SeesN.keep {w w' : World} {sv : Value} {l : List Int} (h : SeesN w sv l) (hc : ∀ p v, w.cell? p = some v → w'.cell? p = some v) : SeesN w' sv l := by
  obtain ⟨a, cap, h1, h2, h3, h4⟩ := h
  refine ⟨a, cap, h1, h2, h3, ?_⟩
  rcases h4 with h4 | ⟨g, o, h5, h6⟩
  · exact .inl h4
  · exact .inr ⟨g, o, h5, fun i v hv => hc _ _ (h6 i v hv)⟩
theorem SeesN.part {w : World} {ra : Option Addr} {l : List Int} {c : Nat} (h : SeesN w (.slice ra l.length c) l) {i j m : Nat} (hij : i ≤ j) (hjl : j ≤ l.length) (hjm : j ≤ m) (hmc : m ≤ c) :
    ∃ a, sliced ra i j m 1 = .slice a (j - i) (m - i) ∧ SeesN w (.slice a (j - i) (m - i)) ((l.drop i).take (j - i)) := by
  obtain ⟨a', c', he, h1, h2, h3⟩ := h
  obtain ⟨rfl, _, rfl⟩ := Value.slice.inj he
  refine ⟨_, rfl, ?_⟩
  have hlen : ((l.drop i).take (j - i)).length = j - i := by rw [List.length_take, List.length_drop]; omega
  refine ⟨_, _, by rw [hlen], by rw [hlen]; omega, by omega, ?_⟩
  by_cases he : j = i
  · left; subst he; simp
  · right
    rcases h3 with h3 | ⟨g, o, h3, h4⟩
    · rw [h3] at hjl; simp at hjl; omega
    · have hmi : ¬ m = i := by omega
      subst h3
      refine ⟨g, o + i, ?_, fun k v hv => ?_⟩
      · simp [hmi, Addr.add]
      · have hk : k < j - i := by have := (List.getElem?_eq_some_iff.1 hv).1; rwa [hlen] at this
        rw [List.getElem?_take, if_pos hk, List.getElem?_drop] at hv
        have := h4 _ _ hv
        rw [← Nat.add_assoc] at this
        exact this
/-- A row's tail. -/
theorem SeesN.tail_ {w : World} {ra : Option Addr} {x : Int} {l : List Int} {c : Nat} (h : SeesN w (.slice ra (l.length + 1) c) (x :: l)) :
    ∃ a, (∀ W, (Instr.slice 89 (.slice ra (l.length + 1) c) (some (.int .i64 1)) none none).run Tryd.prog W = .ok (.slice a l.length (c - 1)) W) ∧ ∀ W, SeesN W (.slice ra (l.length + 1) c) (x :: l) → SeesN W (.slice a l.length (c - 1)) l := by
  have hu : Tryd.prog.underlying 89 = some (.slice (Tryd.prog.elem 89)) := by kernel_rfl
  have hsz : ∀ W, (sizeOf (Tryd.prog.elem 89)).run Tryd.prog W = .ok 1 W := fun W => by kernel_rfl
  obtain ⟨_, _, e0, h1, h2, -⟩ := id h
  cases e0
  have hc : l.length + 1 ≤ c := by simpa using h1
  obtain ⟨a, ha, -⟩ := SeesN.part (l := x :: l) (by simpa using h) (i := 1) (j := l.length + 1) (m := c) (by omega) (by simp) hc (Nat.le_refl _)
  refine ⟨a, fun W => ?_, fun W hW => ?_⟩
  · rw [run_slice_l W _ _ _ _ hu _ _ (by omega) (by omega), hsz]
    exact congrArg (fun x => Result.ok x W) (by simpa using ha)
  · obtain ⟨a', ha', se⟩ := SeesN.part (l := x :: l) (by simpa using hW) (i := 1) (j := l.length + 1) (m := c) (by omega) (by simp) hc (Nat.le_refl _)
    rw [ha] at ha'
    cases ha'
    have e2 : List.take (l.length + 1 - 1) (List.drop 1 (x :: l)) = l := by simp
    rw [e2] at se
    simpa using se
set_option maxRecDepth 100000 in
theorem nindex_ok (W : World) (s : Value) (l : List Int) (n : Int) (hs : SeesN W s l) :
    Calls Tryd.prog 83 #[s, .int .i64 n] W fun e w' => ((∃ k : Nat, e = .returned (.int .i64 k) ∧ n ∈ l) ∨ (e = .returned (.int .i64 (-1)) ∧ n ∉ l)) ∧ w' = W := by
  obtain ⟨a, ac, rfl, a1, a2, a3⟩ := hs
  have ha : (l.length : Int) ≤ 9223372036854775807 := by unfold maxLen at a2; omega
  have HA := Lib.hid a3
  clear a1 a2 a3
  go_enter Tryd.func83, Tryd.ntmps83
  go_wp2
  go_loopw [8] (fun i wr => ∃ k : Nat, k ≤ l.length ∧ i = .int .i64 k ∧ n ∉ l.take k ∧ wr = W) (fun i _ => l.length - (intOf i).toNat)
  case atStart => exact ⟨0, by omega, rfl, by simp, rfl⟩
  case round =>
    obtain ⟨k, hk, rfl, hno, rfl⟩ := hrel
    by_cases hlt : k < l.length
    · obtain ⟨x, hx⟩ : ∃ x, l[k]? = some x := ⟨l[k], by simp [hlt]⟩
      obtain ⟨g, o, rfl, hc⟩ : ∃ g o, a = some ⟨g, o, none⟩ ∧ ∀ i n, l[i]? = some n → wr.cell? ⟨g, o + i, none⟩ = some (.int .i64 n) := by
        rcases HA.out with h | h
        · subst h; simp at hlt
        · exact h
      have c1 := hc k x hx
      have hil : (k : Int) < l.length := by omega
      by_cases hxy : n = x
      · have hb1 : (n == x) = true := by simp [hxy]
        have HST := Lib.hid (show n ∈ l by rw [hxy]; exact List.mem_of_getElem? hx)
        clear hxy hx hc hno
        go_wp2
        go_ret
        exact ⟨.inl ⟨k, rfl, HST.out⟩, rfl⟩
      · have hb1 : (n == x) = false := by simpa using hxy
        have HNO : Hid (n ∉ l.take (k + 1)) := Lib.hid (by
          rw [List.take_add_one, hx]; intro hm
          rcases List.mem_append.1 hm with h | h
          · exact hno h
          · simp at h; exact hxy h)
        have HL := Lib.hid hlt
        clear hxy hx hc hno hlt
        go_wp2
        refine ⟨⟨k + 1, by have := HL.out; omega, by go_num, HNO.out, by first | trivial | rfl⟩, by have := HL.out; simp [intOf]; omega⟩
    · obtain rfl : k = l.length := by omega
      have HNO := Lib.hid (show n ∉ l by rw [List.take_length] at hno; exact hno)
      clear hno hlt
      go_wp2
      go_ret
      exact ⟨.inr ⟨rfl, HNO.out⟩, rfl⟩
theorem ncontains_ok (W : World) (s : Value) (l : List Int) (n : Int) (hs : SeesN W s l) :
    Calls Tryd.prog 69 #[s, .int .i64 n] W fun e w' => e = .returned (.bool (decide (n ∈ l))) ∧ w' = W := by
  have C := nindex_ok W s l n hs
  obtain ⟨a, ac, rfl, -, -, -⟩ := hs
  replace C := Lib.hid C
  go_enter Tryd.func69, Tryd.ntmps69
  go_wp2_with fail
  refine C.out.mono ?_
  rintro e w1 ⟨⟨k, rfl, hm⟩ | ⟨rfl, hm⟩, rfl⟩
  · have hd := Lib.hid (show decide (n ∈ l) = true by simpa using hm)
    clear C hm
    go_wp2
    go_ret
    rw [hd.out]
    exact ⟨rfl, rfl⟩
  · have hd := Lib.hid (show decide (n ∈ l) = false by simpa using hm)
    clear C hm
    go_wp2
    go_ret
    rw [hd.out]
    exact ⟨rfl, rfl⟩
theorem behind1_ok (W : World) (s : Value) (l : List Int) (n : Int) (b : Nat) (hb : W.cell? ⟨b, 0, none⟩ = some (.int .i64 n)) (hs : SeesN W s l) :
    Calls Tryd.prog 91 #[s, .pointer (some ⟨b, 0, none⟩)] W fun e w' => e = .returned (.bool (decide (n ∈ l.tail))) ∧ ∃ q, w' = W.drewN q := by
  cases l with
  | nil =>
    obtain ⟨a, ac, rfl, -, -, -⟩ := hs
    go_enter Tryd.func91, Tryd.ntmps91
    go_wp2
    go_quiet (fail)
    go_wp2
    go_ret
    exact ⟨rfl, _, rfl⟩
  | cons x l =>
    obtain ⟨a, ac, rfl, -, hcap, -⟩ := id hs
    rw [List.length_cons] at hs
    obtain ⟨a2, hrun, hse⟩ := hs.tail_
    have C : Hid (∀ q, Calls Tryd.prog 69 #[.slice a2 l.length (ac - 1), .int .i64 n] (W.drewN q) fun e w' => e = .returned (.bool (decide (n ∈ l))) ∧ w' = W.drewN q) := Lib.hid fun q => ncontains_ok _ _ l n (hse _ (hs.keep fun p v hp => (World.cell?_drewN W q _).trans hp))
    have hl0 : (0 : Int) < ((l.length + 1 : Nat) : Int) := by omega
    have hl1 : (1 : Int) ≤ ((l.length + 1 : Nat) : Int) := by omega
    have hl2 : 0 < l.length + 1 := by omega
    have hl3 : 1 ≤ l.length + 1 := by omega
    have hlb : ((l.length + 1 : Nat) : Int) ≤ 9223372036854775807 := by
      obtain ⟨_, _, e, h1, h2, -⟩ := hs
      cases e
      unfold maxLen at h2; simp at h1; omega
    clear hs hse hcap
    rw [show decide (n ∈ (x :: l).tail) = decide (n ∈ l) from rfl]
    simp only [List.length_cons]
    obtain ⟨bv, hbv⟩ : ∃ gx_, (decide (n ∈ l)) = gx_ := ⟨_, rfl⟩
    rw [hbv] at C ⊢
    clear hbv
    obtain ⟨m, hm⟩ : ∃ gx_, (l.length + 1) = gx_ := ⟨_, rfl⟩
    obtain ⟨m', hm'⟩ : ∃ gx_, (l.length) = gx_ := ⟨_, rfl⟩
    rw [hm] at hrun hl0 hl1 hl2 hl3 hlb ⊢
    rw [hm'] at C hrun
    clear hm hm'
    go_enter Tryd.func91, Tryd.ntmps91
    go_wp2
    go_quiet (first | (go_at_call 69; exact Calls.quiet_of_same (C.out _)))
    go_wp2
    go_ret
    exact ⟨rfl, _, rfl⟩
/-- A slice value, by its parts. -/
abbrev SlV := Option Addr × Nat × Nat
def SlV.val (p : SlV) : Value := .slice p.1 p.2.1 p.2.2
def slCellN (p : SlV) : List Value := [.slice p.1 p.2.1 p.2.2]
theorem slCellN_one (p : SlV) : ∀ u ∈ slCellN p, u.oneCell' = true := by intro u hu; simp [slCellN] at hu; subst hu; rfl
/-- These slices show these rows, in each world that is good. -/
def RowsIn (G : World → Prop) (svs : List SlV) (rows : List (List Int)) : Prop := svs.length = rows.length ∧ ∀ (i : Nat) (sv : SlV) (l : List Int), svs[i]? = some sv → rows[i]? = some l → ∀ W, G W → SeesN W sv.val l
theorem RowsIn.mono {G G' : World → Prop} {svs : List SlV} {rows : List (List Int)} (h : RowsIn G svs rows) (hg : ∀ W, G' W → G W) : RowsIn G' svs rows := ⟨h.1, fun i sv l h1 h2 W hW => h.2 i sv l h1 h2 W (hg W hW)⟩
theorem behindM_take {rows : List (List Int)} {k : Nat} {r : List Int} (n : Int) (h : rows[k]? = some r) : behindM (rows.take (k + 1)) n = (behindM (rows.take k) n || decide (n ∈ r.tail)) := by
  unfold behindM
  rw [List.take_add_one, h, List.any_append]; simp
theorem behindM_some {rows : List (List Int)} {k : Nat} {r : List Int} {n : Int} (h : rows[k]? = some r) (hn : n ∈ r.tail) : behindM rows n = true := by
  unfold behindM
  exact List.any_eq_true.2 ⟨r, List.mem_of_getElem? h, by simpa using hn⟩
set_option maxRecDepth 100000 in
set_option maxHeartbeats 800000 in
theorem indexfunc_ok (W : World) (a : Option Addr) (c : Nat) (svs : List SlV) (rows : List (List Int)) (n : Int) (b : Nat) (hb : W.cell? ⟨b, 0, none⟩ = some (.int .i64 n)) (hs : SeesR slCellN 1 W (.slice a svs.length c) svs) (hr : RowsIn (fun W' => Below W.heap.size W W') svs rows) :
    Calls Tryd.prog 101 #[.slice a svs.length c, .func (.func 91) #[] #[.pointer (some ⟨b, 0, none⟩)]] W fun e w' => ((∃ k : Nat, e = .returned (.int .i64 k) ∧ behindM rows n = true) ∨ (e = .returned (.int .i64 (-1)) ∧ behindM rows n = false)) ∧ Below W.heap.size W w' := by
  obtain ⟨_, _, e0, h1, h2, h3⟩ := hs
  cases e0
  have hl : (svs.length : Int) ≤ 9223372036854775807 := by unfold maxLen at h2; omega
  have HA := Lib.hid h3
  have HR := Lib.hid hr
  have HB := Lib.hid hb
  clear h1 h2 h3 hr hb
  go_enter Tryd.func101, Tryd.ntmps101
  go_wp2
  go_loopw [8] (fun i wr => ∃ k : Nat, k ≤ svs.length ∧ i = .int .i64 k ∧ behindM (rows.take k) n = false ∧ Below W.heap.size W wr) (fun i _ => svs.length - (intOf i).toNat)
  case atStart => exact ⟨0, by omega, rfl, rfl, Below.refl _ _⟩
  case round =>
    obtain ⟨k, hk, rfl, hno, hB⟩ := hrel
    by_cases hlt : k < svs.length
    · obtain ⟨x, hx⟩ : ∃ x, svs[k]? = some x := ⟨svs[k], by simp [hlt]⟩
      obtain ⟨r, hrk⟩ : ∃ r, rows[k]? = some r := ⟨rows[k]'(by have := HR.out.1; omega), by simp⟩
      obtain ⟨g, o, rfl, hc⟩ : ∃ g o, a = some ⟨g, o, none⟩ ∧ ∀ (i : Nat) (p : SlV), svs[i]? = some p → ∀ (j : Nat) (u : Value), (slCellN p)[j]? = some u → W.cell? ⟨g, o + i * 1 + j, none⟩ = some u := by
        rcases HA.out with h | h
        · subst h; simp at hlt
        · exact h
      have c1 := cellBelow (hc k x hx 0 (.slice x.1 x.2.1 x.2.2) rfl) hB
      rw [Nat.mul_one, Nat.add_zero] at c1
      have hsees := HR.out.2 k x r hx hrk wr hB
      obtain ⟨xa, xn, xc⟩ := x
      have C := behind1_ok wr _ r n b (cellBelow HB.out hB) hsees
      simp only [SlV.val] at C c1
      replace C := Lib.hid C
      clear hsees
      have hil : (k : Int) < svs.length := by omega
      have HX := Lib.hid (And.intro hlt (And.intro hB (And.intro (behindM_take n hrk) (And.intro hno (fun hn : n ∈ r.tail => behindM_some hrk hn)))))
      clear hx hrk hc hno hB hlt
      cases hbr : decide (n ∈ r.tail) with
      | true =>
        rw [hbr] at C
        go_wp2_with fail
        refine C.out.mono ?_
        rintro e w2 ⟨rfl, q, rfl⟩
        have HF := Lib.hid (And.intro (HX.out.2.2.2.2 (by simpa using hbr)) (Below.drewN HX.out.2.1 q))
        obtain ⟨w2, hw2⟩ : ∃ w2, wr.drewN q = w2 := ⟨_, rfl⟩
        rw [hw2] at HF ⊢
        clear C hbr hw2 c1
        go_wp2
        go_ret
        exact ⟨.inl ⟨k, rfl, HF.out.1⟩, HF.out.2⟩
      | false =>
        rw [hbr] at C
        go_wp2_with fail
        refine C.out.mono ?_
        rintro e w2 ⟨rfl, q, rfl⟩
        have HF := Lib.hid (And.intro (show behindM (rows.take (k + 1)) n = false by rw [HX.out.2.2.1, HX.out.2.2.2.1, hbr]; rfl) (Below.drewN HX.out.2.1 q))
        obtain ⟨w2, hw2⟩ : ∃ w2, wr.drewN q = w2 := ⟨_, rfl⟩
        rw [hw2] at HF ⊢
        clear C hbr hw2 c1
        go_wp2
        refine ⟨⟨k + 1, by have := HX.out.1; omega, by go_num, HF.out.1, HF.out.2⟩, by have := HX.out.1; simp [intOf]; omega⟩
    · obtain rfl : k = svs.length := by omega
      have HF := Lib.hid (show behindM rows n = false by rw [List.take_of_length_le (by have := HR.out.1; omega)] at hno; exact hno)
      replace hB := Lib.hid hB
      clear hno hlt
      go_wp2
      go_ret
      exact ⟨.inr ⟨rfl, HF.out⟩, hB.out⟩
theorem behind_ok (W : World) (a : Option Addr) (c : Nat) (svs : List SlV) (rows : List (List Int)) (n : Int) (hs : SeesR slCellN 1 W (.slice a svs.length c) svs) (hr : RowsIn (fun W' => Below W.heap.size W W') svs rows) :
    Calls Tryd.prog 82 #[.slice a svs.length c, .int .i64 n] W fun e w' => e = .returned (.bool (behindM rows n)) ∧ Below W.heap.size W w' := by
  have hB0 := belowAlloc W (.cells #[.int .i64 n] 2)
  have C := indexfunc_ok (W.alloc (.cells #[.int .i64 n] 2)) a c svs rows n W.heap.size (cellAt (heapAllocNew W _) 0 rfl) (hs.keep fun p v hp => cellBelow hp hB0) (hr.mono fun W' h => Below.next hB0 h hB0.size)
  have C2 : Calls Tryd.prog 90 #[.slice a svs.length c, .func (.func 91) #[] #[.pointer (some ⟨W.heap.size, 0, none⟩)]] (W.alloc (.cells #[.int .i64 n] 2)) fun e w' => e = .returned (.bool (behindM rows n)) ∧ Below W.heap.size W w' := by
    have HB0 := Lib.hid hB0
    replace C := Lib.hid C
    clear hs hr hB0
    go_enter Tryd.func90, Tryd.ntmps90
    go_wp2_with fail
    refine C.out.mono ?_
    rintro e w1 ⟨⟨k, rfl, hm⟩ | ⟨rfl, hm⟩, hb⟩
    · have HB := Lib.hid (Below.next HB0.out hb HB0.out.size)
      replace hm := Lib.hid hm
      clear C hb
      go_wp2
      go_ret
      rw [hm.out]
      exact ⟨rfl, HB.out⟩
    · have HB := Lib.hid (Below.next HB0.out hb HB0.out.size)
      replace hm := Lib.hid hm
      clear C hb
      go_wp2
      go_ret
      rw [hm.out]
      exact ⟨rfl, HB.out⟩
  replace C2 := Lib.hid C2
  clear hs hr C hB0
  go_enter Tryd.func82, Tryd.ntmps82
  go_wp2_with fail
  refine C2.out.mono ?_
  rintro e w1 ⟨rfl, hb⟩
  replace hb := Lib.hid hb
  clear C2
  go_wp2
  go_ret
  exact ⟨rfl, hb.out⟩
theorem info_sln : (Tryd.prog.info? 89).map (fun i => (i.zero, i.size, i.bytes)) = some (some (.slice none 0 0), 1, 24) := by kernel_rfl
abbrev slnR (v : Value) (l : List SlV) : Res := rowR 89 1 slCellN v l
section
variable {w W : World} {Rs : List Res}
set_option maxRecDepth 100000 in
theorem nclone_ok (S : Sep w Rs W) (a : Option Addr) (c : Nat) (svs : List SlV) (hs : ∀ W', Sep w Rs W' → SeesR slCellN 1 W' (.slice a svs.length c) svs) (hl : svs.length ≤ 4000000) :
    Calls Tryd.prog 80 #[.slice a svs.length c] W fun e W' => ∃ va vc, e = .returned (.slice va svs.length vc) ∧ Sep w (slnR (.slice va svs.length vc) svs :: Rs) W' := by
  have h0 := hs W S
  cases a with
  | none =>
    obtain ⟨_, _, e0, h1, h2, h3⟩ := h0
    cases e0
    have hn : svs = [] := by
      rcases h3 with h | ⟨g, o, h, _⟩
      · exact h
      · cases h
    subst hn
    have heq2 : ∀ W, (binOp .eql 87 (.slice none 0 c) (.slice none 0 0)).run Tryd.prog W = .ok (.bool true) W := fun W => Lib.run_eql_slice_nil W _ _ _ _ _ _ _ Tryd.underlying87
    have S1 := Lib.hid (S.addRow (Below.refl _ _) (e := 89) (m := 1) (f := slCellN) (v := .slice none 0 0) (l := []) (World.ownsRow_nil _ _ _ _) (by simp [Value.ownBlock]))
    clear S hs h1 h2 h3 hl
    simp only [List.length_nil]
    go_enter Tryd.func80, Tryd.ntmps80
    go_wp2
    go_ret
    exact ⟨_, _, rfl, S1.out⟩
  | some p =>
    have T1 := S.madeRow slCellN 1 89
    have hs1 := hs _ T1.tail
    have HL := Lib.hid hl
    have heq2 : ∀ W, (binOp .eql 87 (.slice (some p) svs.length c) (.slice none 0 0)).run Tryd.prog W = .ok (.bool false) W := fun W => Lib.run_eql_slice_nil W _ _ _ _ _ _ _ Tryd.underlying87
    clear S hs h0
    go_enter Tryd.func80, Tryd.ntmps80
    go_wp2_with (at_builtin; refine wpList_append_rows rfl _ _ 87 89 rfl Tryd.underlying87 _ 24 info_sln rfl (by decide) (by decide) (fun _ => rfl) slCellN_one T1 0 rfl rfl _ svs rfl hs1 (by have := HL.out; simp; omega) ?_)
    intro va vc w2 T2
    try simp only [List.length_nil, Nat.zero_add, List.nil_append] at T2
    replace T2 := Lib.hid T2
    clear T1 hs1
    go_wp2
    go_ret
    exact ⟨_, _, rfl, T2.out⟩
theorem nclip_ok (W : World) (a : Option Addr) (n c : Nat) (hnc : n ≤ c) (hcm : c ≤ maxLen) :
    Calls Tryd.prog 68 #[.slice a n c] W fun e W' => e = .returned (.slice a n n) ∧ W' = W := by
  have hl : (n : Int) ≤ 9223372036854775807 := by unfold maxLen at hcm; omega
  have hc1 : (n : Int) ≤ c := by omega
  go_enter Tryd.func68, Tryd.ntmps68
  go_wp2
  go_ret
  exact ⟨rfl, rfl⟩
end
end Go.Proofs.YtobcnffjfclolaaDoor
/- linear: heads' iterator. -/
namespace Go.Proofs.YtobcnffjfclolaaDoor
set_option linter.unusedSimpArgs false
open Go.RowKit
set_option linter.unusedVariables false
attribute [local go_sem] Oper.semAt_some
theorem headsM_take {rows : List (List Int)} {k : Nat} {r : List Int} (h : rows[k]? = some r) : headsM (rows.take (k + 1)) = headsM (rows.take k) ++ r.head?.toList := by
  unfold headsM
  rw [List.take_add_one, h, List.filterMap_append]
  cases r <;> simp
theorem headsM_get {rows : List (List Int)} {k : Nat} {x : Int} {r : List Int} (h : rows[k]? = some (x :: r)) : (headsM rows)[(headsM (rows.take k)).length]? = some x := by
  have hl := (List.getElem?_eq_some_iff.1 h).1
  have e : rows = rows.take k ++ ((x :: r) :: rows.drop (k + 1)) := by
    have hp : rows[k] = x :: r := (List.getElem?_eq_some_iff.1 h).2
    rw [← hp, ← List.drop_eq_getElem_cons hl, List.take_append_drop]
  have key : ∀ A B : List (List Int), (headsM (A ++ (x :: r) :: B))[(headsM A).length]? = some x := fun A B => by
    unfold headsM
    rw [List.filterMap_append, List.getElem?_append_right (Nat.le_refl _)]; simp
  have := key (rows.take k) (rows.drop (k + 1))
  rwa [← e] at this
def headV (rows : List (List Int)) (k : Nat) : Int := (headsM rows)[k]?.getD 0
def headE (rows : List (List Int)) (k : Nat) : Array Value := #[.int .i64 (headV rows k)]
abbrev headF (b1 : Nat) (v : Value) (svs : List SlV) (Rs : List Res) : List Res := boxR b1 (.cells #[v] 87) :: slnR v svs :: Rs
section
variable {w W : World} {Rs : List Res}
theorem heads_ok (W : World) (a : Option Addr) (n c : Nat) : Calls Tryd.prog 81 #[.slice a n c] W fun e W' => e = .returned (.func (.func 89) #[] #[.pointer (some ⟨W.heap.size, 0, none⟩)]) ∧ W' = W.alloc (.cells #[.slice a n c] 87) := by
  go_enter Tryd.func81, Tryd.ntmps81
  go_wp2
  go_ret
  exact ⟨rfl, rfl⟩
theorem enters_heads : Enters Tryd.prog 89 := enters_of Tryd.func89 (by kernel_rfl) rfl
theorem headF_at {b1 : Nat} {v : Value} {svs : List SlV} (R Gs : List Res) : (R ++ (headF b1 v svs Rs ++ Gs))[R.length]? = some (boxR b1 (.cells #[v] 87)) ∧ (R ++ (headF b1 v svs Rs ++ Gs))[R.length + 1]? = some (slnR v svs) ∧ Rs.Sublist (R ++ (headF b1 v svs Rs ++ Gs)) := by
  refine ⟨?_, ?_, ?_⟩
  · rw [List.getElem?_append_right (by omega)]; simp
  · rw [List.getElem?_append_right (by omega)]; simp
  · refine List.Sublist.trans ?_ (List.sublist_append_right _ _)
    refine List.Sublist.trans ?_ (List.sublist_append_left _ _)
    exact .cons _ (.cons _ (List.Sublist.refl _))
set_option maxRecDepth 100000 in
set_option maxHeartbeats 1600000 in
theorem heads_iter (b1 : Nat) (ga : Option Addr) (gc : Nat) (svs : List SlV) (rows : List (List Int)) (hr : RowsIn (Sep w Rs) svs rows) (hl : svs.length ≤ 4000000) :
    IterSep Tryd.prog w 89 #[.pointer (some ⟨b1, 0, none⟩)] (headE rows) (headsM rows).length (headF b1 (.slice ga svs.length gc) svs Rs) := by
  intro l In Ex W1 R hY h0 S0
  have A0 := headF_at (b1 := b1) (v := .slice ga svs.length gc) (svs := svs) (Rs := Rs) R []
  rw [List.append_nil] at A0
  have x1 := cellAt (S0.box _ A0.1) 0 (v := .slice ga svs.length gc) rfl
  have hli : (svs.length : Int) ≤ 4000000 := by omega
  have HY := Lib.hid hY
  have HR := Lib.hid hr
  have HL := Lib.hid hl
  have S1 := Lib.hid S0
  have H0 := Lib.hid h0
  clear hY S0 A0 hr hl h0
  refine (callsIn_wide (n := 8)).1 ?_
  refine callsIn_of_wp Tryd.func89 rfl trivial ?_ rfl
  simp only [Tryd.ntmps89, List.size_toArray, List.length_cons, List.length_nil, Nat.reduceAdd, Nat.reduceSub, Array.replicate_succ, Array.replicate_zero, List.push_toArray, List.append_toArray, List.nil_append, List.cons_append]
  gi_wp2_with fail
  gi_loopw [7] (fun iv wr => ∃ (k : Nat) (R' : List Res), k ≤ svs.length ∧ iv = .int .i64 k ∧ In (headsM (rows.take k)).length R' ∧ Sep w (R' ++ headF b1 (.slice ga svs.length gc) svs Rs) wr) (fun iv _ => svs.length - (intOf iv).toNat)
  case atStart => exact ⟨0, R, by omega, rfl, H0.out, S1.out⟩
  case round =>
    clear S1 H0 x1
    obtain ⟨k, R2, hk, rfl, hIn, S8⟩ := hrel
    have A2 := headF_at (b1 := b1) (v := .slice ga svs.length gc) (svs := svs) (Rs := Rs) R2 []
    rw [List.append_nil] at A2
    by_cases hlt : k < svs.length
    · have hlti : (k : Int) < svs.length := by omega
      obtain ⟨⟨xa, xn, xc⟩, hx⟩ : ∃ x, svs[k]? = some x := ⟨svs[k], by simp [hlt]⟩
      obtain ⟨r, hrk⟩ : ∃ r, rows[k]? = some r := ⟨rows[k]'(by have := HR.out.1; omega), by simp⟩
      have hrow := S8.row _ A2.2.1
      obtain ⟨ig, rfl⟩ : ∃ g, ga = some ⟨g, 0, none⟩ := by
        rcases hrow.shape with ⟨h1, h2⟩ | ⟨g, cap, h1, _⟩
        · rw [h2] at hlt; simp at hlt
        · exact ⟨g, (Value.slice.inj h1).1⟩
      have z0 := hrow.cell (f := slCellN) (m := 1) (fun _ => rfl) rfl hx (j := 0) (u := .slice xa xn xc) rfl
      rw [Nat.add_zero, Nat.mul_one] at z0
      have hsees := HR.out.2 k _ r hx hrk wr (S8.sub A2.2.2)
      simp only [SlV.val] at hsees
      have hst := headsM_take hrk
      cases r with
      | nil =>
        obtain ⟨_, _, e0, -, -, -⟩ := hsees
        cases e0
        have HX := Lib.hid (And.intro hlt (And.intro hst hIn))
        have S9 := Lib.hid S8
        clear hrow hst hIn hlt hx A2 hrk S8
        gi_wp2
        refine ⟨fun _ h => (by cases h), ?_⟩
        gi_wp2
        refine ⟨⟨k + 1, R2, by have := HX.out.1; omega, by go_num, ?_, S9.out⟩, by have := HX.out.1; simp [intOf]; omega⟩
        rw [HX.out.2.1]; simpa using HX.out.2.2
      | cons x r =>
        have hge := headsM_get hrk
        obtain ⟨_, _, e0, h1, h2, h3⟩ := hsees
        cases e0
        obtain ⟨g, o, rfl, hc⟩ : ∃ g o, xa = some ⟨g, o, none⟩ ∧ ∀ i n, (x :: r)[i]? = some n → wr.cell? ⟨g, o + i, none⟩ = some (.int .i64 n) := by
          rcases h3 with h | h
          · cases h
          · exact h
        have c0 := hc 0 x rfl
        rw [Nat.add_zero] at c0
        have hl0 : decide ((0 : Int) < ((r.length + 1 : Nat) : Int)) = true := by rw [decide_eq_true_eq]; omega
        have hlb : ((r.length + 1 : Nat) : Int) ≤ 9223372036854775807 := by unfold maxLen at h2; simp at h1; omega
        have hl1 : (0 : Int) < ((r.length + 1 : Nat) : Int) := by omega
        have hl2 : 0 < r.length + 1 := by omega
        have hkl : (headsM (rows.take k)).length < (headsM rows).length := (List.getElem?_eq_some_iff.1 hge).1
        have henc : headE rows (headsM (rows.take k)).length = #[.int .i64 x] := by unfold headE headV; rw [hge]; rfl
        have hs2 : (headsM (rows.take (k + 1))).length = (headsM (rows.take k)).length + 1 := by rw [hst]; simp
        obtain ⟨fn, tmps, assign, body, hy, hR⟩ := HY.out (headsM (rows.take k)).length R2 wr [] hkl hIn (by rw [List.append_nil]; exact S8)
        rw [henc] at hy
        have HKL := Lib.hid (And.intro hkl (And.intro hs2 hlt))
        simp only [List.length_cons] at z0
        obtain ⟨m, hm⟩ : ∃ gx_, (r.length + 1) = gx_ := ⟨_, rfl⟩
        rw [hm] at hl0 hlb hl1 hl2 z0
        clear hrow hst hIn hlt hx A2 hrk S8 hge h1 h2 h3 hc henc hkl hs2 hm
        gi_wp2_with fail
        refine hR.mono ?_
        rintro e w7 (⟨rfl, R3, hR3, S13⟩ | ⟨rfl, R3, hR3, S13⟩)
        · rw [List.append_nil] at S13
          have S14 := Lib.hid S13
          have HR3 := Lib.hid hR3
          clear hy hR S13 hR3 c0 z0
          gi_wp2
          refine ⟨⟨k + 1, R3, by have := HKL.out.2.2; omega, by go_num, ?_, S14.out⟩, by have := HKL.out.2.2; simp [intOf]; omega⟩
          rw [HKL.out.2.1]; exact HR3.out
        · rw [List.append_nil] at S13
          have S14 := Lib.hid S13
          have HR3 := Lib.hid hR3
          clear hy hR S13 hR3 c0 z0
          gi_wp2
          refine bodyPost_ret (results_none rfl _ _ _) rfl ?_
          exact ⟨⟨_, rfl⟩, .inr ⟨_, R3, HKL.out.1, HR3.out, S14.out⟩⟩
    · have hlti : ¬ (k : Int) < svs.length := by omega
      have HF := Lib.hid (show In (headsM rows).length R2 by rw [List.take_of_length_le (by have := HR.out.1; omega)] at hIn; exact hIn)
      have S9 := Lib.hid S8
      clear S8 hlt A2 hIn
      gi_wp2
      refine bodyPost_end (results_none rfl _ _ _) rfl ?_
      exact ⟨⟨_, rfl⟩, .inl ⟨R2, HF.out, S9.out⟩⟩
end
end Go.Proofs.YtobcnffjfclolaaDoor
