import Derived.Test.YtoancpjlkhijiaaGreatHeapF
/- The document's example, plainly. -/
namespace Go.Proofs.YtoancpjlkhijiaaGreat
set_option linter.unusedSimpArgs false
open Go.RowKit
set_option linter.unusedVariables false
namespace K
def a : V := V.ref 1 (by decide)
def b : V := V.ref 2 (by decide)
def c : V := V.ref 3 (by decide)
def x : V := ⟨3, 0, ⟨#[120]⟩, by decide, by decide, by decide⟩
def oA : ObjM := ⟨1, ⟨#[]⟩, 0, [], [], by decide, by decide, by decide⟩
def oB : ObjM := ⟨1, ⟨#[]⟩, 0, [a, a], [], by decide, by decide, by decide⟩
def oC : ObjM := ⟨6, ⟨#[99]⟩, 7, [], [], by decide, by decide, by decide⟩
def oD : ObjM := ⟨6, ⟨#[99]⟩, 7, [], [(x, c)], by decide, by decide, by decide⟩
def H0 : HeapM := ⟨[], 0⟩
def H1 : HeapM := ⟨[(1, oA)], 1⟩
def H2 : HeapM := ⟨[(1, oA), (2, oB)], 2⟩
def H3 : HeapM := ⟨[(1, oA), (2, oB), (3, oC)], 3⟩
def H4 : HeapM := ⟨[(1, oA), (2, oB), (3, oD)], 3⟩
def H6 : HeapM := ⟨[(3, oD)], 3⟩
def H7 : HeapM := ⟨[], 3⟩
theorem e1 : H0.add oA = H1 := rfl
theorem e2 : H1.add oB = H2 := rfl
theorem e3 : H2.add oC = H3 := rfl
theorem g3 : getL H3.objs 3 = some oC := rfl
theorem key_x : x.isKey = true := by decide +kernel
theorem p1 : putOk ([] : List (V × V)) x = true := by simp [putOk, getL, key_x]
theorem p2 : H3.canPut c x = true := by
  have : H3.of c = some oC := rfl
  simp only [HeapM.canPut, this]; exact p1
theorem e4 : H3.put c x c = H4 := by
  have h1 : H3.of c = some oC := rfl
  have h2 : putOk oC.pairs x = true := p1
  simp only [HeapM.put, h1, h2, if_true]
  rfl
theorem n1 : H4.count a = 2 := by decide +kernel
theorem n2 : H4.count c = 1 := by decide +kernel
theorem r1 : H4.refNs b = [1, 1] := by rfl
theorem m1 : H6.name c = ⟨#[99]⟩ := rfl
theorem f1 : H6.freed [3, 3, 9] = 1 := by rfl
theorem f2 : H6.freeAll [3, 3, 9] = H7 := by rfl
theorem k1 : H7.kind c = 0 := rfl
theorem l1 : H7.live 0 = 0 := rfl
theorem cases4 {n : Int} {o : ObjM} (h : getL H4.objs n = some o) : (n = 1 ∧ o = oA) ∨ (n = 2 ∧ o = oB) ∨ (n = 3 ∧ o = oD) := by
  have := getL_mem h
  simp [H4] at this
  exact this
theorem s1 : H4.sweep [b] = H4 := by
  have hs : Sup H4 [b] (fun n => n = 1 ∨ n = 2 ∨ n = 3) := by
    intro n hn
    rcases hn with rfl | rfl | rfl
    · exact ⟨rfl, .inr ⟨2, oB, by simp, rfl, by decide +kernel⟩⟩
    · exact ⟨rfl, .inl (by decide +kernel)⟩
    · exact ⟨rfl, .inr ⟨3, oD, by simp, rfl, by decide +kernel⟩⟩
  have k1 : Kept H4 [b] 1 := ⟨_, hs, by simp⟩
  have k2 : Kept H4 [b] 2 := ⟨_, hs, by simp⟩
  have k3 : Kept H4 [b] 3 := ⟨_, hs, by simp⟩
  have : H4.objs.filter (fun p => @decide (Kept H4 [b] p.1) (Classical.propDecidable _)) = H4.objs := by
    refine List.filter_eq_self.2 fun p hp => ?_
    simp [H4] at hp
    rcases hp with rfl | rfl | rfl
    · simpa using k1
    · simpa using k2
    · simpa using k3
  unfold HeapM.sweep
  rw [this]
theorem s2 : H4.sweep [] = H6 := by
  have k3 : Kept H4 [] 3 := ⟨fun n => n = 3, fun n hn => by subst hn; exact ⟨rfl, .inr ⟨3, oD, rfl, rfl, by decide +kernel⟩⟩, rfl⟩
  have h2 : ∀ S, Sup H4 [] S → ¬ S 2 := by
    intro S hS h
    rcases (hS 2 h).2 with h1 | ⟨m, o, hm, ho, hc⟩
    · simp [cnt_nil] at h1
    · rcases cases4 ho with ⟨rfl, rfl⟩ | ⟨rfl, rfl⟩ | ⟨rfl, rfl⟩
      · have : cnt oA.vals 2 = 0 := by decide +kernel
        omega
      · have : cnt oB.vals 2 = 0 := by decide +kernel
        omega
      · have : cnt oD.vals 2 = 0 := by decide +kernel
        omega
  have k2 : ¬ Kept H4 [] 2 := fun ⟨S, hS, h⟩ => h2 S hS h
  have k1 : ¬ Kept H4 [] 1 := fun ⟨S, hS, h⟩ => by
    rcases (hS 1 h).2 with h1 | ⟨m, o, hm, ho, hc⟩
    · simp [cnt_nil] at h1
    · rcases cases4 ho with ⟨rfl, rfl⟩ | ⟨rfl, rfl⟩ | ⟨rfl, rfl⟩
      · have : cnt oA.vals 1 = 0 := by decide +kernel
        omega
      · exact h2 S hS hm
      · have : cnt oD.vals 1 = 0 := by decide +kernel
        omega
  have : H4.objs.filter (fun p => @decide (Kept H4 [] p.1) (Classical.propDecidable _)) = [(3, oD)] := by
    simp [H4, List.filter_cons] at k1 k2 k3 ⊢
    simp [k1, k2, k3]
  unfold HeapM.sweep
  rw [this]; rfl
theorem g0 : H0.Good 0 := good_empty
theorem ok4 : H4.Ok := ⟨by decide, by decide, by decide⟩
end K
end Go.Proofs.YtoancpjlkhijiaaGreat
/- The document's example: the walk. -/
namespace Go.Proofs.YtoancpjlkhijiaaGreat
set_option linter.unusedSimpArgs false
open Go.RowKit
set_option linter.unusedVariables false
theorem heap_setCell3 {w : World} {q : Nat} {x y x' y' : Int} {s s' : ByteArray} (h : w.heap[q]? = some (.cells #[.int .i64 x, .int .i64 y, .string s] 31)) :
    (((w.setCell ⟨q, 0, none⟩ (.int .i64 x')).setCell ⟨q, 1, none⟩ (.int .i64 y')).setCell ⟨q, 2, none⟩ (.string s')).heap[q]? = some (.cells #[.int .i64 x', .int .i64 y', .string s'] 31) :=
  heap_setCell_same (heap_setCell_same (heap_setCell_same h 0 _) 1 _) 2 _
theorem outside3 (w : World) (q : Nat) (u v x : Value) : Outside [q] w (((w.setCell ⟨q, 0, none⟩ u).setCell ⟨q, 1, none⟩ v).setCell ⟨q, 2, none⟩ x) :=
  (((Outside.refl _ _).setCell (.inl (by simp)) _).setCell (.inl (by simp)) _).setCell (.inl (by simp)) _
/-- The result's box is written; nobody needs it any more. -/
theorem HAt.result {w W0 W W' : World} {h : Nat} {H : HeapM} {L : List (Nat × Obj)} {o : Obj} (A : HAt w h H ((W0.heap.size, o) :: L) W) (hL : ∀ p ∈ L, p.1 < W0.heap.size) (hw : w.heap.size ≤ W0.heap.size) (ho : Outside [W0.heap.size] W W') : HAt w h H L W' :=
  A.beside ho (fun q hq => by simp at hq; subst hq; exact .inl ⟨hw, o, by simp⟩) (fun p hp => .inl ⟨List.mem_cons_of_mem _ hp, by have := hL p hp; simp; omega⟩)
theorem HAt.lt {w W : World} {h : Nat} {H : HeapM} {L : List (Nat × Obj)} (A : HAt w h H L W) : ∀ p ∈ L, p.1 < W.heap.size := fun p hp => blockLt (A.box hp)
def refCell (n : Int) : Value := .agg #[.int .i64 4, .int .i64 n, .string ⟨#[]⟩]
theorem HAt.list {w W : World} {h : Nat} {H : HeapM} {L : List (Nat × Obj)} {N : Nat} (A : HAt w h H L W) (G : H.Good N) (hN : N + 1 ≤ 4000000) (o : ObjM) (sv : Value) (hs : SeesV W sv o.items) (hlen : o.items.length ≤ 4194304) (hp : o.pairs = []) (hk : o.kind = 1) (hn : o.name = ⟨#[]⟩) (hm : o.num = 0) :
    Calls Tryz.prog 54 #[.pointer (some ⟨h, 0, none⟩), sv] W fun e W' => e = .returned (.agg #[.int .i64 4, .int .i64 (H.last + 1), .string ⟨#[]⟩]) ∧ HAt w h (H.add o) L W' := by
  have hb := belowAlloc W (valObj V.zero)
  have HM := (A.alloc (valObj V.zero)).make G hN o sv (hs.keep fun p v hp => cellBelow hp hb) hlen hp (by omega) (by omega)
  rw [hk, hn, hm] at HM
  have HM := Lib.hid HM
  have HA := Lib.hid A
  obtain ⟨sa, scap, rfl, _⟩ := hs
  clear A hb hk hn hm hp hlen
  go_enter Tryz.func54, Tryz.ntmps54
  go_wp2_with fail
  refine HM.out.mono ?_
  rintro e W2 ⟨rfl, A2⟩
  obtain ⟨y0, y1, y2, y3, y4, y5⟩ := valBlkO (A2.box (q := W.heap.size) (o := valObj V.zero) (by simp))
  have A2 := Lib.hid A2
  simp only [V.zero] at y0 y1 y2
  go_wp2
  refine bodyPost_ret (v := .agg #[.int .i64 4, .int .i64 (H.last + 1), .string ⟨#[]⟩]) (by simp [results, Tryz.results54, go_sem, y0, y1, y2]) rfl ⟨rfl, ?_⟩
  exact A2.out.result HA.out.lt HA.out.below.size (outside3 _ _ _ _ _)
theorem seesNil (w : World) : SeesV w (.slice none 0 0) [] := ⟨none, 0, rfl, by simp, by simp, .inl rfl⟩
theorem SeesN.of_slIs {w : World} {sv : Value} {l : List Int} (h : slIs w 2 1 intCell sv l) : SeesN w sv l := by
  rcases h.shape with ⟨h1, h2⟩ | ⟨g, c, h1, h2, h3, h4⟩
  · subst h1; subst h2; exact ⟨none, 0, rfl, by simp, by simp, .inl rfl⟩
  · subst h1
    refine ⟨_, c, rfl, h2, h3, .inr ⟨g, 0, rfl, fun i n hi => ?_⟩⟩
    have := h.cell intCell_len rfl hi (j := 0) rfl
    simpa using this
def SameRel (w : World) (l m : List Int) (k : Nat) (wr : World) : Prop := l.take k = m.take k ∧ ∃ n, wr = w.drewN n
theorem SameRel.later {w wr : World} {l m : List Int} {k : Nat} (h : SameRel w l m k wr) (n : Nat) : SameRel w l m k (wr.drewN n) := by
  obtain ⟨h1, j, rfl⟩ := h; exact ⟨h1, _, World.drewN_drewN w j n⟩
set_option maxRecDepth 100000 in
set_option maxHeartbeats 1600000 in
/-- Two rows of numbers: are they the same? -/
theorem same_numbers (w : World) (s t : Value) (l m : List Int) (hs : SeesN w s l) (ht : SeesN w t m) (hk : (∀ n ∈ l, okI n) ∧ ∀ n ∈ m, okI n) :
    Calls Tryz.prog 12 #[s, t] w fun e w' => e = .returned (.bool (decide (l = m))) ∧ ∃ n, w' = w.drewN n := by
  obtain ⟨a, ac, rfl, a1, a2, a3⟩ := hs
  obtain ⟨b, bc, rfl, b1, b2, b3⟩ := ht
  have ha : (l.length : Int) ≤ 9223372036854775807 := by unfold maxLen at a2; omega
  have hb : (m.length : Int) ≤ 9223372036854775807 := by unfold maxLen at b2; omega
  have HA := Lib.hid a3
  have HB := Lib.hid b3
  clear a1 a2 a3 b1 b2 b3 hk
  by_cases hlen : l.length = m.length
  · have hne : (((l.length : Int)) != (m.length : Int)) = false := by simp [hlen]
    have HL := Lib.hid hlen
    clear hlen
    go_enter Tryz.func12, Tryz.ntmps12
    go_wp2
    go_loopw [5] (fun i wr => ∃ k : Nat, k ≤ l.length ∧ i = .int .i64 k ∧ SameRel w l m k wr) (fun i _ => l.length - (intOf i).toNat)
    case atStart => exact ⟨0, by omega, rfl, by simp, 0, rfl⟩
    case round =>
      obtain ⟨k, hk, rfl, hkm, nd, rfl⟩ := hrel
      by_cases hlt : k < l.length
      · obtain ⟨x, hx⟩ : ∃ x, l[k]? = some x := ⟨l[k], by simp [hlt]⟩
        obtain ⟨y, hy⟩ : ∃ y, m[k]? = some y := ⟨m[k]'(by have := HL.out; omega), by simp⟩
        obtain ⟨g, o, rfl, hc⟩ : ∃ g o, a = some ⟨g, o, none⟩ ∧ ∀ i n, l[i]? = some n → w.cell? ⟨g, o + i, none⟩ = some (.int .i64 n) := by
          rcases HA.out with h | h
          · subst h; simp at hlt
          · exact h
        obtain ⟨g', o', rfl, hc'⟩ : ∃ g o, b = some ⟨g, o, none⟩ ∧ ∀ i n, m[i]? = some n → w.cell? ⟨g, o + i, none⟩ = some (.int .i64 n) := by
          rcases HB.out with h | h
          · subst h; simp at hy
          · exact h
        have c1 : (w.drewN nd).cell? ⟨g, o + k, none⟩ = some (.int .i64 x) := (World.cell?_drewN w nd _).trans (hc k x hx)
        have c2 : (w.drewN nd).cell? ⟨g', o' + k, none⟩ = some (.int .i64 y) := (World.cell?_drewN w nd _).trans (hc' k y hy)
        have hil : (k : Int) < l.length := by omega
        have hil2 : (k : Int) < m.length := by have := HL.out; omega
        obtain ⟨wx, hwx⟩ : ∃ wx, w.drewN nd = wx := ⟨_, rfl⟩
        rw [hwx] at c1 c2 ⊢
        have HWX := Lib.hid hwx
        have HKM := Lib.hid hkm
        by_cases hxy : x = y
        · have hb1 : (x != y) = false := by simp [hxy]
          have HST : Hid (SameRel w l m (k + 1) wx) := by
            have h1 : l.take (k + 1) = m.take (k + 1) := by rw [List.take_add_one, List.take_add_one, hkm, hx, hy, hxy]
            exact ⟨h1, nd, HWX.out.symm⟩
          clear hxy hx hy hc hc' hkm hwx
          go_wp2
          go_quiet (fail)
          go_wp2
          refine ⟨⟨k + 1, by omega, by go_num, HST.out.later _⟩, by simp [intOf]; omega⟩
        · have hb1 : (x != y) = true := by simpa using hxy
          have HNE := Lib.hid (show decide (l = m) = false by
            simp only [decide_eq_false_iff_not]; intro e; rw [e, hy] at hx; exact hxy (Option.some.inj hx).symm)
          clear hxy hx hy hc hc' hkm hwx
          go_wp2
          go_quiet (fail)
          go_wp2
          go_ret
          rw [HNE.out]
          rename_i nq _
          exact ⟨rfl, _, by rw [← HWX.out, World.drewN_drewN]⟩
      · have : k = l.length := by omega
        subst this
        have HEQ := Lib.hid (show decide (l = m) = true by
          simp only [decide_eq_true_eq]
          rw [List.take_length, HL.out, List.take_length] at hkm; exact hkm)
        clear hkm
        go_wp2
        go_ret
        rw [HEQ.out]
        exact ⟨rfl, _, rfl⟩
  · have hne : (((l.length : Int)) != (m.length : Int)) = true := by simp; omega
    have HN := Lib.hid (show decide (l = m) = false by simp; intro e; exact hlen (by rw [e]))
    clear hlen
    go_enter Tryz.func12, Tryz.ntmps12
    go_wp2
    go_ret
    rw [HN.out]
    exact ⟨rfl, 0, rfl⟩
end Go.Proofs.YtoancpjlkhijiaaGreat
/- The document's example is as it says. -/
namespace Go.Proofs.YtoancpjlkhijiaaGreat
set_option linter.unusedSimpArgs false
open Go.RowKit
set_option linter.unusedVariables false
namespace K
theorem good1 : H1.Good 10 := ⟨⟨by decide, by decide, by decide⟩, by decide +kernel⟩
theorem good2 : H2.Good 10 := ⟨⟨by decide, by decide, by decide⟩, by decide +kernel⟩
theorem good3 : H3.Good 10 := ⟨⟨by decide, by decide, by decide⟩, by decide +kernel⟩
theorem good4 : H4.Good 10 := ⟨⟨by decide, by decide, by decide⟩, by decide +kernel⟩
theorem good6 : H6.Good 10 := ⟨⟨by decide, by decide, by decide⟩, by decide +kernel⟩
theorem good7 : H7.Good 10 := ⟨⟨by decide, by decide, by decide⟩, by decide +kernel⟩
end K
theorem seesTwo {w : World} {b : Nat} {x y : V} (h : w.heap[b]? = some (.cells #[.int .i64 x.kind, .int .i64 x.n, .string x.s, .int .i64 y.kind, .int .i64 y.n, .string y.s] 31)) : SeesV w (.slice (some ⟨b, 0, none⟩) 2 2) [x, y] := by
  refine ⟨_, 2, rfl, by simp, by decide, .inr ⟨b, 0, rfl, fun i v hv => ?_⟩⟩
  match i, hv with
  | 0, hv => simp at hv; subst hv; exact ⟨cellAt h 0 rfl, cellAt h 1 rfl, cellAt h 2 rfl⟩
  | 1, hv => simp at hv; subst hv; exact ⟨cellAt h 3 rfl, cellAt h 4 rfl, cellAt h 5 rfl⟩
  | i + 2, hv => simp at hv
theorem seesThree {w : World} {b : Nat} {x y z : Int} (h : w.heap[b]? = some (.cells #[.int .i64 x, .int .i64 y, .int .i64 z] 2)) : SeesN w (.slice (some ⟨b, 0, none⟩) 3 3) [x, y, z] := by
  refine ⟨_, 3, rfl, by simp, by decide, .inr ⟨b, 0, rfl, fun i v hv => ?_⟩⟩
  match i, hv with
  | 0, hv => simp at hv; subst hv; exact cellAt h 0 rfl
  | 1, hv => simp at hv; subst hv; exact cellAt h 1 rfl
  | 2, hv => simp at hv; subst hv; exact cellAt h 2 rfl
  | i + 3, hv => simp at hv
theorem seesTwoN {w : World} {b : Nat} {x y : Int} (h : w.heap[b]? = some (.cells #[.int .i64 x, .int .i64 y] 2)) : SeesN w (.slice (some ⟨b, 0, none⟩) 2 2) [x, y] := by
  refine ⟨_, 2, rfl, by simp, by decide, .inr ⟨b, 0, rfl, fun i v hv => ?_⟩⟩
  match i, hv with
  | 0, hv => simp at hv; subst hv; exact cellAt h 0 rfl
  | 1, hv => simp at hv; subst hv; exact cellAt h 1 rfl
  | i + 2, hv => simp at hv
theorem field_n (W : World) (a b : Int) (s : ByteArray) : (Instr.field 31 (.agg #[.int .i64 a, .int .i64 b, .string s]) 1).run Tryz.prog W = .ok (.int .i64 b) W := by kernel_rfl
theorem field_k (W : World) (a b : Int) (s : ByteArray) : (Instr.field 31 (.agg #[.int .i64 a, .int .i64 b, .string s]) 0).run Tryz.prog W = .ok (.int .i64 a) W := by kernel_rfl
theorem field_s (W : World) (a b : Int) (s : ByteArray) : (Instr.field 31 (.agg #[.int .i64 a, .int .i64 b, .string s]) 2).run Tryz.prog W = .ok (.string s) W := by kernel_rfl
set_option maxRecDepth 100000 in
set_option maxHeartbeats 1600000 in
theorem kept_ok (w : World) : Calls Tryz.prog 11 #[] w fun e w' => e = .returned (.bool true) ∧ Below w.heap.size w w' := by
  go_enter Tryz.func11, Tryz.ntmps11
  go_wp2_with fail
  refine (HAt.new w w (Below.refl _ _)).mono ?_
  rintro e w1 ⟨h, rfl, A1, hb1⟩
  have A1 := A1.alloc (valObj K.x)
  have C1 := A1.list K.g0 (by omega) K.oA (.slice none 0 0) (seesNil _) (by decide) rfl rfl rfl rfl
  have C1 := Lib.hid C1
  clear A1 hb1
  go_wp2_with fail
  refine C1.out.mono ?_
  rintro e w2 ⟨rfl, A2⟩
  replace A2 : HAt w h K.H1 _ w2 := A2
  have A3 := A2.alloc (valObj K.a)
  have A4 := A3.alloc (.cells #[.int .i64 4, .int .i64 1, .string ⟨#[]⟩, .int .i64 4, .int .i64 1, .string ⟨#[]⟩] 31)
  have C2 := A4.list K.good1 (by omega) K.oB (.slice (some ⟨(w2.alloc (valObj K.a)).heap.size, 0, none⟩) 2 2) (seesTwo (x := K.a) (y := K.a) (heapAllocNew _ _)) (by decide) rfl rfl rfl rfl
  rw [World.size_alloc] at C2
  rw [show K.H1.last + 1 = 2 from rfl] at C2
  have C2 := Lib.hid C2
  clear A2 A3 A4
  go_wp2_with fail
  refine C2.out.mono ?_
  rintro e w3 ⟨rfl, A5⟩
  replace A5 : HAt w h K.H2 [(w2.heap.size, valObj K.a), (w1.heap.size, valObj K.x)] w3 := A5.less (by simp)
  have A6 := A5.alloc (valObj K.b)
  -- c
  have C3 := A6.make K.good2 (by omega) K.oC (.slice none 0 0) (seesNil _) (by decide) rfl (by decide) (by decide)
  rw [show K.H2.last + 1 = 3 from rfl] at C3
  have C3 := Lib.hid C3
  clear A5 A6
  go_wp2_with fail
  refine C3.out.mono ?_
  rintro e w4 ⟨rfl, A7⟩
  replace A7 : HAt w h K.H3 _ w4 := A7
  have A8 := A7.alloc (valObj K.c)
  have C4 := A8.put K.c K.x K.c
  rw [K.p2, K.e4] at C4
  obtain ⟨x0, x1, x2, _⟩ := valBlkO (A7.box (q := w1.heap.size) (o := valObj K.x) (by simp))
  have z1 := A7.lt (w1.heap.size, valObj K.x) (by simp)
  have C4 := Lib.hid C4
  simp only [K.x] at x0 x1 x2 z1
  clear A7 A8
  go_wp2_with fail
  refine C4.out.mono ?_
  rintro e w5 ⟨rfl, A9⟩
  clear x0 x1 x2 z1
  -- counts and refs
  have C5 := A9.count K.good4 (by omega) K.a
  rw [K.n1] at C5
  have C5 := Lib.hid C5
  obtain ⟨a0, a1, a2, _⟩ := valBlkO (A9.box (q := w2.heap.size) (o := valObj K.a) (by simp))
  simp only [K.a, V.ref] at a0 a1 a2
  clear A9
  go_wp2_with fail
  refine C5.out.mono ?_
  rintro e w6 ⟨rfl, A10⟩
  clear a0 a1 a2
  have C6 := A10.refs K.good4 (by omega) K.b
  rw [K.r1] at C6
  have C6 := Lib.hid C6
  obtain ⟨b0, b1, b2, _⟩ := valBlkO (A10.box (q := w3.heap.size) (o := valObj K.b) (by simp))
  simp only [K.b, V.ref] at b0 b1 b2
  clear A10
  go_wp2_with fail
  refine C6.out.mono ?_
  rintro e w7 ⟨rs, rfl, R1, R2, A11, R3⟩
  obtain ⟨ra, rcap, rfl⟩ := R1.form
  have R1 := Lib.hid (And.intro R1 R2)
  clear R2 R3 b0 b1 b2
  have C7 := A11.count K.good4 (by omega) K.c
  rw [K.n2] at C7
  have C7 := Lib.hid C7
  obtain ⟨c0, c1, c2, _⟩ := valBlkO (A11.box (q := w4.heap.size) (o := valObj K.c) (by simp))
  simp only [K.c, V.ref] at c0 c1 c2
  clear A11
  go_wp2_with fail
  refine C7.out.mono ?_
  rintro e w8 ⟨rfl, A12⟩
  clear c0 c1 c2
  -- sweeps
  have A13 := A12.alloc (valObj K.b)
  have C8 := A13.sweep K.good4 (by omega) (.slice (some ⟨w8.heap.size, 0, none⟩) 1 1) [K.b] (seesOneO (heapAllocNew _ _)) (fun g o n c e _ => by cases e; exact .inr ⟨_, List.mem_cons_self⟩) (by simp)
  rw [K.s1] at C8
  have C8 := Lib.hid C8
  obtain ⟨b0, b1, b2, _⟩ := valBlkO (A12.box (q := w3.heap.size) (o := valObj K.b) (by simp))
  simp only [K.b, V.ref] at b0 b1 b2
  clear A12 A13
  go_wp2_with fail
  refine C8.out.mono ?_
  rintro e w9 ⟨⟨f8, rfl, hf8⟩, A14⟩
  have hf8' : f8 = 0 := by omega
  subst hf8'
  clear b0 b1 b2 hf8
  have C9 := A14.sweep K.good4 (by omega) (.slice none 0 0) [] (seesNil _) (fun g o n c e _ => by cases e) (by simp)
  rw [K.s2] at C9
  have C9 := Lib.hid C9
  clear A14
  go_wp2_with fail
  refine C9.out.mono ?_
  rintro e w10 ⟨⟨f9, rfl, hf9⟩, A15⟩
  have hf9' : f9 = 2 := by have : f9 + 1 = 3 := hf9; omega
  subst hf9'
  clear hf9
  have C10 := A15.name K.c
  rw [K.m1] at C10
  have C10 := Lib.hid C10
  obtain ⟨c0, c1, c2, _⟩ := valBlkO (A15.box (q := w4.heap.size) (o := valObj K.c) (by simp))
  simp only [K.c, V.ref] at c0 c1 c2
  clear A15
  go_wp2_with fail
  refine C10.out.mono ?_
  rintro e w11 ⟨rfl, A16⟩
  clear c0 c1 c2
  have A17 := A16.alloc (.cells #[.int .i64 3, .int .i64 3, .int .i64 9] 2)
  have C11 := A17.free K.good6 (by omega) (.slice (some ⟨w11.heap.size, 0, none⟩) 3 3) [3, 3, 9] (seesThree (heapAllocNew _ _)) (fun g o n c e _ => by cases e; exact .inr ⟨_, List.mem_cons_self⟩) (by decide)
  rw [K.f1, K.f2] at C11
  have C11 := Lib.hid C11
  clear A16 A17
  go_wp2_with fail
  refine C11.out.mono ?_
  rintro e w12 ⟨rfl, A18⟩
  -- the answer
  have R2 : slIs w12 2 1 intCell (.slice ra [1, 1].length rcap) [1, 1] := A18.keepSl R1.out.1 (fun p hp => List.mem_cons_of_mem _ (List.mem_cons_of_mem _ (List.mem_append_left _ hp)))
  have C12 := same_numbers (w12.alloc (.cells #[.int .i64 1, .int .i64 1] 2)) (.slice ra [(1 : Int), 1].length rcap) (.slice (some ⟨w12.heap.size, 0, none⟩) 2 2) [1, 1] [1, 1] (SeesN.of_slIs (R2.alloc _)) (seesTwoN (heapAllocNew _ _)) (by decide)
  simp only [decide_true] at C12
  have C12 := Lib.hid C12
  have A18 := Lib.hid A18
  obtain ⟨a0, a1, a2, _⟩ := valBlkO (A18.out.box (q := w2.heap.size) (o := valObj K.a) (by simp))
  simp only [K.a, V.ref] at a0 a1 a2
  obtain ⟨b0, b1, b2, _⟩ := valBlkO (A18.out.box (q := w3.heap.size) (o := valObj K.b) (by simp))
  simp only [K.b, V.ref] at b0 b1 b2
  clear R2
  go_wp2_with fail
  refine C12.out.mono ?_
  rintro e w13 ⟨rfl, n13, hw13⟩
  have A19 := (A18.out.alloc (.cells #[.int .i64 1, .int .i64 1] 2)).later (Below.drewN (Below.refl _ _) n13)
  rw [← hw13] at A19
  clear hw13 a0 a1 a2 b0 b1 b2
  have C13 := A19.kind K.c
  rw [K.k1] at C13
  have C13 := Lib.hid C13
  obtain ⟨c0, c1, c2, _⟩ := valBlkO (A19.box (q := w4.heap.size) (o := valObj K.c) (by simp))
  simp only [K.c, V.ref] at c0 c1 c2
  clear A19
  go_wp2_with fail
  refine C13.out.mono ?_
  rintro e w14 ⟨rfl, A20⟩
  clear c0 c1 c2
  have C14 := A20.live K.good7 (by omega) 0
  rw [K.l1] at C14
  have C14 := Lib.hid C14
  clear A20
  go_wp2_with fail
  refine C14.out.mono ?_
  rintro e w15 ⟨rfl, A21⟩
  have C15 := A21.makeNo 0 0 ⟨#[]⟩ none 0 0 (by omega)
  have C15 := Lib.hid C15
  clear A21
  go_wp2_with fail
  refine C15.out.mono ?_
  rintro e w16 ⟨rfl, A22⟩
  simp only [V.zero, V.val]
  have C16 := A22.list K.good7 (by omega) K.oA (.slice none 0 0) (seesNil _) (by decide) rfl rfl rfl rfl
  rw [show K.H7.last + 1 = 4 from rfl] at C16
  have C16 := Lib.hid C16
  clear A22
  go_wp2_with fail
  refine C16.out.mono ?_
  rintro e w17 ⟨rfl, A23⟩
  have HB := Lib.hid A23.below
  clear A23
  have hfld := fun W => field_n W 4 4 ⟨#[]⟩
  go_wp2
  go_ret
  exact ⟨rfl, HB.out⟩
end Go.Proofs.YtoancpjlkhijiaaGreat
