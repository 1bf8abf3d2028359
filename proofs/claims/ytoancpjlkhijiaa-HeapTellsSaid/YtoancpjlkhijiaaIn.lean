/- The law's in and ref. -/
import Derived.Test.YtoancpjlkhijiaaKeptA
namespace Go.Proofs.Ytoancpjlkhijiaa
set_option linter.unusedSimpArgs false
open Go.RowKit
set_option linter.unusedVariables false
set_option maxRecDepth 100000 in
set_option maxHeartbeats 1600000 in
theorem in_ok (w : World) (s : Value) (l : List Int) (n : Int) (hs : SeesN w s l) :
    Calls Try.prog 34 #[s, .int .i64 n] w fun e w' => e = .returned (.bool (decide (n ∈ l))) ∧ ∃ q, w' = w.drewN q := by
  obtain ⟨a, ac, rfl, a1, a2, a3⟩ := hs
  have ha : (l.length : Int) ≤ 9223372036854775807 := by unfold maxLen at a2; omega
  have HA := Lib.hid a3
  clear a1 a2 a3
  go_enter Try.func34, Try.ntmps34
  go_wp2
  go_loopw [5] (fun i wr => ∃ k : Nat, k ≤ l.length ∧ i = .int .i64 k ∧ n ∉ l.take k ∧ ∃ q, wr = w.drewN q) (fun i _ => l.length - (intOf i).toNat)
  case atStart => exact ⟨0, by omega, rfl, by simp, 0, rfl⟩
  case round =>
    obtain ⟨k, hk, rfl, hno, nd, rfl⟩ := hrel
    by_cases hlt : k < l.length
    · obtain ⟨x, hx⟩ : ∃ x, l[k]? = some x := ⟨l[k], by simp [hlt]⟩
      obtain ⟨g, o, rfl, hc⟩ : ∃ g o, a = some ⟨g, o, none⟩ ∧ ∀ i n, l[i]? = some n → w.cell? ⟨g, o + i, none⟩ = some (.int .i64 n) := by
        rcases HA.out with h | h
        · subst h; simp at hlt
        · exact h
      have c1 : (w.drewN nd).cell? ⟨g, o + k, none⟩ = some (.int .i64 x) := (World.cell?_drewN w nd _).trans (hc k x hx)
      have hil : (k : Int) < l.length := by omega
      obtain ⟨wx, hwx⟩ : ∃ wx, w.drewN nd = wx := ⟨_, rfl⟩
      rw [hwx] at c1 ⊢
      have HWX := Lib.hid hwx
      by_cases hxy : x = n
      · have hb1 : (x == n) = true := by simp [hxy]
        have HST := Lib.hid (show decide (n ∈ l) = true by rw [decide_eq_true_eq, ← hxy]; exact List.mem_of_getElem? hx)
        clear hxy hx hc hno hwx
        go_wp2
        go_ret
        rw [HST.out]
        exact ⟨rfl, _, HWX.out.symm⟩
      · have hb1 : (x == n) = false := by simpa using hxy
        have HNO : Hid (n ∉ l.take (k + 1)) := Lib.hid (by
          rw [List.take_add_one, hx]; intro hm
          rcases List.mem_append.1 hm with h | h
          · exact hno h
          · simp at h; exact hxy h.symm)
        clear hxy hx hc hno hwx
        go_wp2
        refine ⟨⟨k + 1, by omega, by go_num, HNO.out, _, HWX.out.symm⟩, by simp [intOf]; omega⟩
    · obtain rfl : k = l.length := by omega
      have HNO := Lib.hid (show decide (n ∈ l) = false by rw [List.take_length] at hno; simpa using hno)
      clear hno
      go_wp2
      go_ret
      rw [HNO.out]
      exact ⟨rfl, _, rfl⟩
theorem ref_ok (w : World) (n : Int) :
    Calls Try.prog 21 #[.int .i64 n] w fun e w' => e = .returned (.agg #[.int .i64 4, .int .i64 n, .string ⟨#[]⟩]) ∧ Below w.heap.size w w' := by
  go_enter Try.func21, Try.ntmps21
  go_wp2
  exact bodyPost_ret (v := .agg #[.int .i64 4, .int .i64 n, .string ⟨#[]⟩]) (by simp [results, Try.results21, go_sem]) rfl ⟨rfl, by (repeat (first | exact Below.refl _ _ | assumption | refine Below.drewN ?_ _ | refine Below.drew ?_ | refine Below.alloc ?_ (by (try simp only [World.size_alloc, size_drewN, size_setCell]); omega) _ | refine Below.setCell ?_ (by (try simp only [World.size_alloc, size_drewN, size_setCell]); omega) _))⟩
end Go.Proofs.Ytoancpjlkhijiaa
