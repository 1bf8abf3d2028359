/- The document's example: the walk. -/
import Derived.Test.YtoancpjlkhijiaaKeptM
namespace Go.Proofs.Ytoancpjlkhijiaa
open Go.RowKit
set_option linter.unusedVariables false
theorem heap_setCell3 {w : World} {q : Nat} {x y x' y' : Int} {s s' : ByteArray} (h : w.heap[q]? = some (.cells #[.int .i64 x, .int .i64 y, .string s] 26)) :
    (((w.setCell ⟨q, 0, none⟩ (.int .i64 x')).setCell ⟨q, 1, none⟩ (.int .i64 y')).setCell ⟨q, 2, none⟩ (.string s')).heap[q]? = some (.cells #[.int .i64 x', .int .i64 y', .string s'] 26) :=
  heap_setCell_same (heap_setCell_same (heap_setCell_same h 0 _) 1 _) 2 _
theorem outside3 (w : World) (q : Nat) (u v x : Value) : Outside [q] w (((w.setCell ⟨q, 0, none⟩ u).setCell ⟨q, 1, none⟩ v).setCell ⟨q, 2, none⟩ x) :=
  (((Outside.refl _ _).setCell (.inl (by simp)) _).setCell (.inl (by simp)) _).setCell (.inl (by simp)) _
/-- The result's box is written; nobody needs it any more. -/
theorem HAt.result {w W0 W W' : World} {h : Nat} {H : HeapM} {L : List (Nat × Obj)} {o : Obj} (A : HAt w h H ((W0.heap.size, o) :: L) W) (hL : ∀ p ∈ L, p.1 < W0.heap.size) (hw : w.heap.size ≤ W0.heap.size) (ho : Outside [W0.heap.size] W W') : HAt w h H L W' :=
  A.beside ho (fun q hq => by simp at hq; subst hq; exact .inl ⟨hw, o, by simp⟩) (fun p hp => .inl ⟨List.mem_cons_of_mem _ hp, by have := hL p hp; simp; omega⟩)
theorem HAt.lt {w W : World} {h : Nat} {H : HeapM} {L : List (Nat × Obj)} (A : HAt w h H L W) : ∀ p ∈ L, p.1 < W.heap.size := fun p hp => blockLt (A.box hp)
def refCell (n : Int) : Value := .agg #[.int .i64 4, .int .i64 n, .string ⟨#[]⟩]
theorem HAt.list {w W : World} {h : Nat} {H : HeapM} {L : List (Nat × Obj)} {N : Nat} (A : HAt w h H L W) (G : H.Good N) (hN : N + 1 ≤ 4000000) (o : ObjM) (sv : Value) (hs : SeesV W sv o.items) (hlen : o.items.length ≤ 4194304) (hp : o.pairs = []) (hk : o.kind = 1) (hn : o.name = ⟨#[]⟩) (hm : o.num = 0) :
    Calls Try.prog 13 #[.pointer (some ⟨h, 0, none⟩), sv] W fun e W' => e = .returned (.agg #[.int .i64 4, .int .i64 (H.last + 1), .string ⟨#[]⟩]) ∧ HAt w h (H.add o) L W' := by
  have hb := belowAlloc W (valObj V.zero)
  have HM := (A.alloc (valObj V.zero)).make G hN o sv (hs.keep fun p v hp => cellBelow hp hb) hlen hp (by omega) (by omega)
  rw [hk, hn, hm] at HM
  have HM := Lib.hid HM
  have HA := Lib.hid A
  obtain ⟨sa, scap, rfl, _⟩ := hs
  clear A hb hk hn hm hp hlen
  go_enter Try.func13, Try.ntmps13
  go_wp2_with fail
  refine HM.out.mono ?_
  rintro e W2 ⟨rfl, A2⟩
  obtain ⟨y0, y1, y2, y3, y4, y5⟩ := valBlkO (A2.box (q := W.heap.size) (o := valObj V.zero) (by simp))
  have A2 := Lib.hid A2
  simp only [V.zero] at y0 y1 y2
  go_wp2
  refine bodyPost_ret (v := .agg #[.int .i64 4, .int .i64 (H.last + 1), .string ⟨#[]⟩]) (by simp [results, Try.results13, go_sem, y0, y1, y2]) rfl ⟨rfl, ?_⟩
  exact A2.out.result HA.out.lt HA.out.below.size (outside3 _ _ _ _ _)
theorem seesNil (w : World) : SeesV w (.slice none 0 0) [] := ⟨none, 0, rfl, by simp, by simp, .inl rfl⟩
theorem SeesN.of_slIs {w : World} {sv : Value} {l : List Int} (h : slIs w 2 1 intCell sv l) : SeesN w sv l := by
  rcases h.shape with ⟨h1, h2⟩ | ⟨g, c, h1, h2, h3, h4⟩
  · subst h1; subst h2; exact ⟨none, 0, rfl, by simp, by simp, .inl rfl⟩
  · subst h1
    refine ⟨_, c, rfl, h2, h3, .inr ⟨g, 0, rfl, fun i n hi => ?_⟩⟩
    have := h.cell intCell_len rfl hi (j := 0) rfl
    simpa using this
def SameRel (w : World) (l m : List Int) (k : Nat) (wr : World) : Prop := l.take k = m.take k ∧ ∃ n, wr = w.drewN n
theorem SameRel.later {w wr : World} {l m : List Int} {k : Nat} (h : SameRel w l m k wr) (n : Nat) : SameRel w l m k (wr.drewN n) := by
  obtain ⟨h1, j, rfl⟩ := h; exact ⟨h1, _, World.drewN_drewN w j n⟩
set_option maxRecDepth 100000 in
set_option maxHeartbeats 1600000 in
/-- Two rows of numbers: are they the same? -/
theorem same_numbers (w : World) (s t : Value) (l m : List Int) (hs : SeesN w s l) (ht : SeesN w t m) (hk : (∀ n ∈ l, okI n) ∧ ∀ n ∈ m, okI n) :
    Calls Try.prog 25 #[s, t] w fun e w' => e = .returned (.bool (decide (l = m))) ∧ ∃ n, w' = w.drewN n := by
  obtain ⟨a, ac, rfl, a1, a2, a3⟩ := hs
  obtain ⟨b, bc, rfl, b1, b2, b3⟩ := ht
  have ha : (l.length : Int) ≤ 9223372036854775807 := by unfold maxLen at a2; omega
  have hb : (m.length : Int) ≤ 9223372036854775807 := by unfold maxLen at b2; omega
  have HA := Lib.hid a3
  have HB := Lib.hid b3
  clear a1 a2 a3 b1 b2 b3 hk
  by_cases hlen : l.length = m.length
  · have hne : (((l.length : Int)) != (m.length : Int)) = false := by simp [hlen]
    have HL := Lib.hid hlen
    clear hlen
    go_enter Try.func25, Try.ntmps25
    go_wp2
    go_loopw [5] (fun i wr => ∃ k : Nat, k ≤ l.length ∧ i = .int .i64 k ∧ SameRel w l m k wr) (fun i _ => l.length - (intOf i).toNat)
    case atStart => exact ⟨0, by omega, rfl, by simp, 0, rfl⟩
    case round =>
      obtain ⟨k, hk, rfl, hkm, nd, rfl⟩ := hrel
      by_cases hlt : k < l.length
      · obtain ⟨x, hx⟩ : ∃ x, l[k]? = some x := ⟨l[k], by simp [hlt]⟩
        obtain ⟨y, hy⟩ : ∃ y, m[k]? = some y := ⟨m[k]'(by have := HL.out; omega), by simp⟩
        obtain ⟨g, o, rfl, hc⟩ : ∃ g o, a = some ⟨g, o, none⟩ ∧ ∀ i n, l[i]? = some n → w.cell? ⟨g, o + i, none⟩ = some (.int .i64 n) := by
          rcases HA.out with h | h
          · subst h; simp at hlt
          · exact h
        obtain ⟨g', o', rfl, hc'⟩ : ∃ g o, b = some ⟨g, o, none⟩ ∧ ∀ i n, m[i]? = some n → w.cell? ⟨g, o + i, none⟩ = some (.int .i64 n) := by
          rcases HB.out with h | h
          · subst h; simp at hy
          · exact h
        have c1 : (w.drewN nd).cell? ⟨g, o + k, none⟩ = some (.int .i64 x) := (World.cell?_drewN w nd _).trans (hc k x hx)
        have c2 : (w.drewN nd).cell? ⟨g', o' + k, none⟩ = some (.int .i64 y) := (World.cell?_drewN w nd _).trans (hc' k y hy)
        have hil : (k : Int) < l.length := by omega
        have hil2 : (k : Int) < m.length := by have := HL.out; omega
        obtain ⟨wx, hwx⟩ : ∃ wx, w.drewN nd = wx := ⟨_, rfl⟩
        rw [hwx] at c1 c2 ⊢
        have HWX := Lib.hid hwx
        have HKM := Lib.hid hkm
        by_cases hxy : x = y
        · have hb1 : (x != y) = false := by simp [hxy]
          have HST : Hid (SameRel w l m (k + 1) wx) := by
            have h1 : l.take (k + 1) = m.take (k + 1) := by rw [List.take_add_one, List.take_add_one, hkm, hx, hy, hxy]
            exact ⟨h1, nd, HWX.out.symm⟩
          clear hxy hx hy hc hc' hkm hwx
          go_wp2
          go_quiet (fail)
          go_wp2
          refine ⟨⟨k + 1, by omega, by go_num, HST.out.later _⟩, by simp [intOf]; omega⟩
        · have hb1 : (x != y) = true := by simpa using hxy
          have HNE := Lib.hid (show decide (l = m) = false by
            simp only [decide_eq_false_iff_not]; intro e; rw [e, hy] at hx; exact hxy (Option.some.inj hx).symm)
          clear hxy hx hy hc hc' hkm hwx
          go_wp2
          go_quiet (fail)
          go_wp2
          go_ret
          rw [HNE.out]
          rename_i nq _
          exact ⟨rfl, _, by rw [← HWX.out, World.drewN_drewN]⟩
      · have : k = l.length := by omega
        subst this
        have HEQ := Lib.hid (show decide (l = m) = true by
          simp only [decide_eq_true_eq]
          rw [List.take_length, HL.out, List.take_length] at hkm; exact hkm)
        clear hkm
        go_wp2
        go_ret
        rw [HEQ.out]
        exact ⟨rfl, _, rfl⟩
  · have hne : (((l.length : Int)) != (m.length : Int)) = true := by simp; omega
    have HN := Lib.hid (show decide (l = m) = false by simp; intro e; exact hlen (by rw [e]))
    clear hlen
    go_enter Try.func25, Try.ntmps25
    go_wp2
    go_ret
    rw [HN.out]
    exact ⟨rfl, 0, rfl⟩
end Go.Proofs.Ytoancpjlkhijiaa
