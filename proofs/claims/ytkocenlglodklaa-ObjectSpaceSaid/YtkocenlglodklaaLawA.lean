/- ch 14's law functions: str, num, names, pick. -/
import Derived.Test.YtkocenlglodklaaClsM
namespace Go.Proofs.Ytkocenlglodklaa
set_option linter.unusedSimpArgs false
open Go.RowKit
set_option linter.unusedVariables false
set_option maxRecDepth 100000 in
theorem str_ok (w : World) (s : ByteArray) : Calls Try.prog 36 #[.string s] w fun e w' => e = .returned (.agg #[.int .i64 3, .int .i64 0, .string s]) ∧ Below w.heap.size w w' := by
  go_enter Try.func36, Try.ntmps36
  go_wp2
  exact bodyPost_ret (v := .agg #[.int .i64 3, .int .i64 0, .string s]) (by simp [results, Try.results36, go_sem]) rfl ⟨rfl, by (repeat (first | exact Below.refl _ _ | assumption | refine Below.drewN ?_ _ | refine Below.drew ?_ | refine Below.alloc ?_ (by (try simp only [World.size_alloc, size_drewN, size_setCell]); omega) _ | refine Below.setCell ?_ (by (try simp only [World.size_alloc, size_drewN, size_setCell]); omega) _))⟩
set_option maxRecDepth 100000 in
theorem num_ok (w : World) (n : Int) : Calls Try.prog 29 #[.int .i64 n] w fun e w' => e = .returned (.agg #[.int .i64 2, .int .i64 n, .string ⟨#[]⟩]) ∧ Below w.heap.size w w' := by
  go_enter Try.func29, Try.ntmps29
  go_wp2
  exact bodyPost_ret (v := .agg #[.int .i64 2, .int .i64 n, .string ⟨#[]⟩]) (by simp [results, Try.results29, go_sem]) rfl ⟨rfl, by (repeat (first | exact Below.refl _ _ | assumption | refine Below.drewN ?_ _ | refine Below.drew ?_ | refine Below.alloc ?_ (by (try simp only [World.size_alloc, size_drewN, size_setCell]); omega) _ | refine Below.setCell ?_ (by (try simp only [World.size_alloc, size_drewN, size_setCell]); omega) _))⟩
abbrev namesV : Value := .agg #[.string ⟨#[97]⟩, .string ⟨#[98]⟩, .string ⟨#[95, 95, 105, 110, 105, 116, 95, 95]⟩, .string ⟨#[]⟩]
set_option maxRecDepth 100000 in
theorem names_ok (w : World) : Calls Try.prog 17 #[] w fun e w' => e = .returned namesV ∧ Below w.heap.size w w' := by
  go_enter Try.func17, Try.ntmps17
  go_wp2
  exact bodyPost_ret (v := namesV) (by simp [results, Try.results17, go_sem]) rfl ⟨rfl, by (repeat (first | exact Below.refl _ _ | assumption | refine Below.drewN ?_ _ | refine Below.drew ?_ | refine Below.alloc ?_ (by (try simp only [World.size_alloc, size_drewN, size_setCell]); omega) _ | refine Below.setCell ?_ (by (try simp only [World.size_alloc, size_drewN, size_setCell]); omega) _))⟩
set_option maxRecDepth 100000 in
set_option maxHeartbeats 1600000 in
theorem pick_ok (w : World) (sv : Value) (l : List V) (i : Int) (hs : SeesV w sv l) :
    Calls Try.prog 13 #[sv, .int .i64 i] w fun e w' => e = .returned (pickV l i).val ∧ Below w.heap.size w w' := by
  obtain ⟨a, ac, rfl, a1, a2, a3⟩ := hs
  by_cases hl : l = []
  · subst hl
    go_enter Try.func13, Try.ntmps13
    go_wp2
    exact bodyPost_ret (v := .agg #[.int .i64 0, .int .i64 0, .string ⟨#[]⟩]) (by simp [results, Try.results13, go_sem]) rfl ⟨rfl, by (repeat (first | exact Below.refl _ _ | assumption | refine Below.drewN ?_ _ | refine Below.drew ?_ | refine Below.alloc ?_ (by (try simp only [World.size_alloc, size_drewN, size_setCell]); omega) _ | refine Below.setCell ?_ (by (try simp only [World.size_alloc, size_drewN, size_setCell]); omega) _))⟩
  · have hlen : 0 < l.length := List.length_pos_iff.2 hl
    have hk : pickN l.length i < l.length := Nat.mod_lt _ hlen
    have hpv : pickV l i = l[pickN l.length i] := by unfold pickV; rw [List.getElem?_eq_getElem hk]; rfl
    have hget : l[pickN l.length i]? = some (pickV l i) := by rw [hpv]; exact List.getElem?_eq_getElem hk
    have hnum := pick_num l.length i
    obtain ⟨x, hx⟩ : ∃ gx_, (pickV l i) = gx_ := ⟨_, rfl⟩
    rw [hx] at hget ⊢
    obtain ⟨k, hkk⟩ : ∃ gx_, (pickN l.length i) = gx_ := ⟨_, rfl⟩
    rw [hkk] at hget hnum hk
    obtain ⟨g, o, rfl, hc⟩ : ∃ g o, a = some ⟨g, o, none⟩ ∧ ∀ i v, l[i]? = some v → w.cell? ⟨g, o + i * 3, none⟩ = some (.int .i64 v.kind) ∧ w.cell? ⟨g, o + i * 3 + 1, none⟩ = some (.int .i64 v.n) ∧ w.cell? ⟨g, o + i * 3 + 2, none⟩ = some (.string v.s) := by
      rcases a3 with h | h
      · exact absurd h hl
      · exact h
    obtain ⟨c0, c1, c2⟩ := hc k x hget
    replace c0 := cellBelow c0 (belowAlloc w (.cells #[.int .i64 0, .int .i64 0, .string ⟨#[]⟩] 33))
    replace c1 := cellBelow c1 (belowAlloc w (.cells #[.int .i64 0, .int .i64 0, .string ⟨#[]⟩] 33))
    replace c2 := cellBelow c2 (belowAlloc w (.cells #[.int .i64 0, .int .i64 0, .string ⟨#[]⟩] 33))
    have hkl : (k : Int) < l.length := by omega
    have hl0 : ((l.length : Int) == 0) = false := by simp; omega
    have hL2 : (l.length : Int) ≤ 9223372036854775807 := by unfold maxLen at a2; omega
    have hl1 : ¬ l.length = 0 := by omega
    clear hx hkk hpv hget hc hl a3
    go_enter Try.func13, Try.ntmps13
    go_wp2
    exact bodyPost_ret (v := x.val) (by simp [results, Try.results13, go_sem, V.val]) rfl ⟨rfl, by (repeat (first | exact Below.refl _ _ | assumption | refine Below.drewN ?_ _ | refine Below.drew ?_ | refine Below.alloc ?_ (by (try simp only [World.size_alloc, size_drewN, size_setCell]); omega) _ | refine Below.setCell ?_ (by (try simp only [World.size_alloc, size_drewN, size_setCell]); omega) _))⟩
end Go.Proofs.Ytkocenlglodklaa
