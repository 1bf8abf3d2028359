/- What a law does beside the heap: rows of values. -/
import Derived.Test.YtobcnffjfclolaaDoorOpen
import Derived.Test.YtobcnffjfclolaaDoorHeapC
import Derived.Lib.AppendZeros
namespace Go.Proofs.YtobcnffjfclolaaDoor
set_option linter.unusedSimpArgs false
open Go.RowKit
set_option linter.unusedVariables false
theorem V.eq_iff (x y : V) : x = y ↔ (x.kind = y.kind ∧ x.n = y.n ∧ x.s.toList = y.s.toList) := by
  constructor
  · intro h; subst h; exact ⟨rfl, rfl, rfl⟩
  · rintro ⟨h1, h2, h3⟩
    obtain ⟨a, b, c, _, _, _⟩ := x
    obtain ⟨a', b', c', _, _, _⟩ := y
    simp only at h1 h2 h3
    subst h1; subst h2
    have : c = c' := by
      rw [ByteArray.toList_eq, ByteArray.toList_eq] at h3
      cases c; cases c'
      simp only [ByteArray.mk.injEq]
      exact Array.toList_inj.1 h3
    subst this; rfl
theorem neq_vals (W : World) (x y : V) (b : Bool) (hb : (!decide (x = y)) = b) : (binOp .neq 31 (.agg #[.int .i64 x.kind, .int .i64 x.n, .string x.s]) (.agg #[.int .i64 y.kind, .int .i64 y.n, .string y.s])).run Tryd.prog W = .ok (.bool b) W := by
  go_simp
  have hx := V.eq_iff x y
  subst hb
  by_cases h1 : x.kind = y.kind
  · by_cases h2 : x.n = y.n
    · by_cases h3 : x.s.toList = y.s.toList
      · simp [h1, h2, h3, hx]
      · simp [h1, h2, h3, hx]
    · simp [h1, h2, hx]
  · simp [h1, hx]
def SameRelV (w : World) (l m : List V) (k : Nat) (wr : World) : Prop := l.take k = m.take k ∧ ∃ n, wr = w.drewN n
theorem SameRelV.later {w wr : World} {l m : List V} {k : Nat} (h : SameRelV w l m k wr) (n : Nat) : SameRelV w l m k (wr.drewN n) := by
  obtain ⟨h1, j, rfl⟩ := h; exact ⟨h1, _, World.drewN_drewN w j n⟩
set_option maxRecDepth 100000 in
set_option maxHeartbeats 1600000 in
/-- Two rows of values: are they the same? -/
theorem same_vals (w : World) (s t : Value) (l m : List V) (hs : SeesV w s l) (ht : SeesV w t m) :
    Calls Tryd.prog 32 #[s, t] w fun e w' => e = .returned (.bool (decide (l = m))) ∧ ∃ n, w' = w.drewN n := by
  obtain ⟨a, ac, rfl, a1, a2, a3⟩ := hs
  obtain ⟨b, bc, rfl, b1, b2, b3⟩ := ht
  have ha : (l.length : Int) ≤ 9223372036854775807 := by unfold maxLen at a2; omega
  have hb : (m.length : Int) ≤ 9223372036854775807 := by unfold maxLen at b2; omega
  have HA := Lib.hid a3
  have HB := Lib.hid b3
  clear a1 a2 a3 b1 b2 b3
  by_cases hlen : l.length = m.length
  · have hne : (((l.length : Int)) != (m.length : Int)) = false := by simp [hlen]
    have HL := Lib.hid hlen
    clear hlen
    go_enter Tryd.func32, Tryd.ntmps32
    go_wp2
    go_loopw [5] (fun i wr => ∃ k : Nat, k ≤ l.length ∧ i = .int .i64 k ∧ SameRelV w l m k wr) (fun i _ => l.length - (intOf i).toNat)
    case atStart => exact ⟨0, by omega, rfl, by simp, 0, rfl⟩
    case round =>
      obtain ⟨k, hk, rfl, hkm, nd, rfl⟩ := hrel
      by_cases hlt : k < l.length
      · obtain ⟨x, hx⟩ : ∃ x, l[k]? = some x := ⟨l[k], by simp [hlt]⟩
        obtain ⟨y, hy⟩ : ∃ y, m[k]? = some y := ⟨m[k]'(by have := HL.out; omega), by simp⟩
        obtain ⟨g, o, rfl, hc⟩ : ∃ g o, a = some ⟨g, o, none⟩ ∧ ∀ i v, l[i]? = some v → w.cell? ⟨g, o + i * 3, none⟩ = some (.int .i64 v.kind) ∧ w.cell? ⟨g, o + i * 3 + 1, none⟩ = some (.int .i64 v.n) ∧ w.cell? ⟨g, o + i * 3 + 2, none⟩ = some (.string v.s) := by
          rcases HA.out with h | h
          · subst h; simp at hlt
          · exact h
        obtain ⟨g', o', rfl, hc'⟩ : ∃ g o, b = some ⟨g, o, none⟩ ∧ ∀ i v, m[i]? = some v → w.cell? ⟨g, o + i * 3, none⟩ = some (.int .i64 v.kind) ∧ w.cell? ⟨g, o + i * 3 + 1, none⟩ = some (.int .i64 v.n) ∧ w.cell? ⟨g, o + i * 3 + 2, none⟩ = some (.string v.s) := by
          rcases HB.out with h | h
          · subst h; simp at hy
          · exact h
        obtain ⟨c10, c11, c12⟩ : (w.drewN nd).cell? ⟨g, o + k * 3, none⟩ = some (.int .i64 x.kind) ∧ (w.drewN nd).cell? ⟨g, o + k * 3 + 1, none⟩ = some (.int .i64 x.n) ∧ (w.drewN nd).cell? ⟨g, o + k * 3 + 2, none⟩ = some (.string x.s) := hc k x hx
        obtain ⟨c20, c21, c22⟩ : (w.drewN nd).cell? ⟨g', o' + k * 3, none⟩ = some (.int .i64 y.kind) ∧ (w.drewN nd).cell? ⟨g', o' + k * 3 + 1, none⟩ = some (.int .i64 y.n) ∧ (w.drewN nd).cell? ⟨g', o' + k * 3 + 2, none⟩ = some (.string y.s) := hc' k y hy
        have hil : (k : Int) < l.length := by omega
        have hil2 : (k : Int) < m.length := by have := HL.out; omega
        obtain ⟨wx, hwx⟩ : ∃ wx, w.drewN nd = wx := ⟨_, rfl⟩
        rw [hwx] at c10 c11 c12 c20 c21 c22 ⊢
        have HWX := Lib.hid hwx
        have HKM := Lib.hid hkm
        by_cases hxy : x = y
        · have hb1 := fun W => neq_vals W x y false (by simp [hxy])
          have HST : Hid (SameRelV w l m (k + 1) wx) := by
            have h1 : l.take (k + 1) = m.take (k + 1) := by rw [List.take_add_one, List.take_add_one, hkm, hx, hy, hxy]
            exact ⟨h1, nd, HWX.out.symm⟩
          clear hxy hx hy hc hc' hkm hwx
          go_wp2
          go_quiet (fail)
          go_wp2
          refine ⟨⟨k + 1, by omega, by go_num, HST.out.later _⟩, by simp [intOf]; omega⟩
        · have hb1 := fun W => neq_vals W x y true (by simpa using hxy)
          have HNE := Lib.hid (show decide (l = m) = false by
            simp only [decide_eq_false_iff_not]; intro e; rw [e, hy] at hx; exact hxy (Option.some.inj hx).symm)
          clear hxy hx hy hc hc' hkm hwx
          go_wp2
          go_quiet (fail)
          go_wp2
          go_ret
          rw [HNE.out]
          rename_i nq _
          exact ⟨rfl, _, by rw [← HWX.out, World.drewN_drewN]⟩
      · have : k = l.length := by omega
        subst this
        have HEQ := Lib.hid (show decide (l = m) = true by
          simp only [decide_eq_true_eq]
          rw [List.take_length, HL.out, List.take_length] at hkm; exact hkm)
        clear hkm
        go_wp2
        go_ret
        rw [HEQ.out]
        exact ⟨rfl, _, rfl⟩
  · have hne : (((l.length : Int)) != (m.length : Int)) = true := by simp; omega
    have HN := Lib.hid (show decide (l = m) = false by simp; intro e; exact hlen (by rw [e]))
    clear hlen
    go_enter Tryd.func32, Tryd.ntmps32
    go_wp2
    go_ret
    rw [HN.out]
    exact ⟨rfl, 0, rfl⟩
end Go.Proofs.YtobcnffjfclolaaDoor
