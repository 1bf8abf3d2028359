/- kraitref11.Same: are two rows of numbers the same? -/
import Derived.Test.YtkocenlglodklaaKeptA
namespace Go.Proofs.Ytkocenlglodklaa
set_option linter.unusedSimpArgs false
open Go.RowKit
set_option linter.unusedVariables false
set_option maxRecDepth 100000 in
set_option maxHeartbeats 1600000 in
theorem same11_ok (w : World) (s t : Value) (l m : List Int) (hs : SeesN w s l) (ht : SeesN w t m) (hk : (∀ n ∈ l, okI n) ∧ ∀ n ∈ m, okI n) :
    Calls Try.prog 42 #[s, t] w fun e w' => e = .returned (.bool (decide (l = m))) ∧ ∃ n, w' = w.drewN n := by
  obtain ⟨a, ac, rfl, a1, a2, a3⟩ := hs
  obtain ⟨b, bc, rfl, b1, b2, b3⟩ := ht
  have ha : (l.length : Int) ≤ 9223372036854775807 := by unfold maxLen at a2; omega
  have hb : (m.length : Int) ≤ 9223372036854775807 := by unfold maxLen at b2; omega
  have HA := Lib.hid a3
  have HB := Lib.hid b3
  clear a1 a2 a3 b1 b2 b3 hk
  by_cases hlen : l.length = m.length
  · have hne : (((l.length : Int)) != (m.length : Int)) = false := by simp [hlen]
    have HL := Lib.hid hlen
    clear hlen
    go_enter Try.func42, Try.ntmps42
    go_wp2
    go_loopw [5] (fun i wr => ∃ k : Nat, k ≤ l.length ∧ i = .int .i64 k ∧ SameRel w l m k wr) (fun i _ => l.length - (intOf i).toNat)
    case atStart => exact ⟨0, by omega, rfl, by simp, 0, rfl⟩
    case round =>
      obtain ⟨k, hk, rfl, hkm, nd, rfl⟩ := hrel
      by_cases hlt : k < l.length
      · obtain ⟨x, hx⟩ : ∃ x, l[k]? = some x := ⟨l[k], by simp [hlt]⟩
        obtain ⟨y, hy⟩ : ∃ y, m[k]? = some y := ⟨m[k]'(by have := HL.out; omega), by simp⟩
        obtain ⟨g, o, rfl, hc⟩ : ∃ g o, a = some ⟨g, o, none⟩ ∧ ∀ i n, l[i]? = some n → w.cell? ⟨g, o + i, none⟩ = some (.int .i64 n) := by
          rcases HA.out with h | h
          · subst h; simp at hlt
          · exact h
        obtain ⟨g', o', rfl, hc'⟩ : ∃ g o, b = some ⟨g, o, none⟩ ∧ ∀ i n, m[i]? = some n → w.cell? ⟨g, o + i, none⟩ = some (.int .i64 n) := by
          rcases HB.out with h | h
          · subst h; simp at hy
          · exact h
        have c1 : (w.drewN nd).cell? ⟨g, o + k, none⟩ = some (.int .i64 x) := (World.cell?_drewN w nd _).trans (hc k x hx)
        have c2 : (w.drewN nd).cell? ⟨g', o' + k, none⟩ = some (.int .i64 y) := (World.cell?_drewN w nd _).trans (hc' k y hy)
        have hil : (k : Int) < l.length := by omega
        have hil2 : (k : Int) < m.length := by have := HL.out; omega
        obtain ⟨wx, hwx⟩ : ∃ wx, w.drewN nd = wx := ⟨_, rfl⟩
        rw [hwx] at c1 c2 ⊢
        have HWX := Lib.hid hwx
        have HKM := Lib.hid hkm
        by_cases hxy : x = y
        · have hb1 : (x != y) = false := by simp [hxy]
          have HST : Hid (SameRel w l m (k + 1) wx) := by
            have h1 : l.take (k + 1) = m.take (k + 1) := by rw [List.take_add_one, List.take_add_one, hkm, hx, hy, hxy]
            exact ⟨h1, nd, HWX.out.symm⟩
          clear hxy hx hy hc hc' hkm hwx
          go_wp2
          go_quiet (fail)
          go_wp2
          refine ⟨⟨k + 1, by omega, by go_num, HST.out.later _⟩, by simp [intOf]; omega⟩
        · have hb1 : (x != y) = true := by simpa using hxy
          have HNE := Lib.hid (show decide (l = m) = false by
            simp only [decide_eq_false_iff_not]; intro e; rw [e, hy] at hx; exact hxy (Option.some.inj hx).symm)
          clear hxy hx hy hc hc' hkm hwx
          go_wp2
          go_quiet (fail)
          go_wp2
          go_ret
          rw [HNE.out]
          rename_i nq _
          exact ⟨rfl, _, by rw [← HWX.out, World.drewN_drewN]⟩
      · have : k = l.length := by omega
        subst this
        have HEQ := Lib.hid (show decide (l = m) = true by
          simp only [decide_eq_true_eq]
          rw [List.take_length, HL.out, List.take_length] at hkm; exact hkm)
        clear hkm
        go_wp2
        go_ret
        rw [HEQ.out]
        exact ⟨rfl, _, rfl⟩
  · have hne : (((l.length : Int)) != (m.length : Int)) = true := by simp; omega
    have HN := Lib.hid (show decide (l = m) = false by simp; intro e; exact hlen (by rw [e]))
    clear hlen
    go_enter Try.func42, Try.ntmps42
    go_wp2
    go_ret
    rw [HN.out]
    exact ⟨rfl, 0, rfl⟩
end Go.Proofs.Ytkocenlglodklaa
