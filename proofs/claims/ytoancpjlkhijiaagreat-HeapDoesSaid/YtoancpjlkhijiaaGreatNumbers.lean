/- kraitref12.Numbers; a number pushed on a row. -/
import Derived.Test.YtoancpjlkhijiaaGreatRow
import Derived.Test.YtoancpjlkhijiaaGreatPush
namespace Go.Proofs.YtoancpjlkhijiaaGreat
set_option linter.unusedSimpArgs false
open Go.RowKit
set_option linter.unusedVariables false
set_option maxRecDepth 100000 in
set_option maxHeartbeats 1600000 in
theorem numbers_ok (w : World) (s : Value) (l : List V) (hs : SeesV w s l) (hlen : l.length ≤ 8796093022208) :
    Calls Tryz.prog 23 #[s] w fun e w' => ∃ rv, e = .returned rv ∧ RowN w w' rv (l.map (·.n)) := by
  obtain ⟨a, ac, rfl, a1, a2, a3⟩ := hs
  have hl : (l.length : Int) ≤ 9223372036854775807 := by unfold maxLen at a2; omega
  have HA := Lib.hid a3
  have HL := Lib.hid hlen
  clear a1 a2 a3 hlen
  have R0 := RowN.made (Below.refl w.heap.size w)
  go_enter Tryz.func23, Tryz.ntmps23
  go_wp2
  go_loopw [3, 4] (fun t i wr => ∃ k : Nat, k ≤ l.length ∧ i = .int .i64 k ∧ RowN w wr t ((l.take k).map (·.n))) (fun _ i _ => l.length - (intOf i).toNat)
  case atStart => exact ⟨0, by omega, rfl, R0⟩
  case round =>
    obtain ⟨k, hk, rfl, hR⟩ := hrel
    by_cases hlt : k < l.length
    · obtain ⟨x, hx⟩ : ∃ x, l[k]? = some x := ⟨l[k], by simp [hlt]⟩
      obtain ⟨g, o, rfl, hc⟩ : ∃ g o, a = some ⟨g, o, none⟩ ∧ ∀ i v, l[i]? = some v → w.cell? ⟨g, o + i * 3, none⟩ = some (.int .i64 v.kind) ∧ w.cell? ⟨g, o + i * 3 + 1, none⟩ = some (.int .i64 v.n) ∧ w.cell? ⟨g, o + i * 3 + 2, none⟩ = some (.string v.s) := by
        rcases HA.out with h | h
        · subst h; simp at hlt
        · exact h
      have c1 := cellBelow (hc k x hx).2.1 hR.2.2
      have hil : (k : Int) < l.length := by omega
      have htk : (l.take (k + 1)).map (·.n) = (l.take k).map (·.n) ++ [x.n] := by rw [List.take_add_one, hx]; simp
      have hxl : ((l.take k).map (·.n)).length ≤ k := by rw [List.length_map, List.length_take]; omega
      generalize (l.take k).map (·.n) = xs at *
      obtain ⟨va, vc, rfl⟩ := hR.1.form
      have HT := Lib.hid htk
      have HX := Lib.hid hxl
      have HR := Lib.hid hR
      have HLT := Lib.hid hlt
      clear htk hxl hc hx hR hlt
      go_wp2_with (at_builtin; refine wpList_push_n rfl _ _ rfl _ _ rfl (HR.out.1.alloc _) _ _ rfl (cell_of_row _ _ _ _ _ _ (heapAllocNew _ _)) (by have := HX.out; have := HL.out; have := HLT.out; omega) ?_)
      intro va' vc' w' h1 h2 h3
      have HR' := Lib.hid ((HR.out.later (belowAlloc _ _)).pushed h1 h2 (by rw [World.size_alloc]; exact h3))
      clear h1 h2 h3 c1
      go_wp2
      refine ⟨⟨k + 1, by have := HLT.out; omega, by go_num, by rw [HT.out]; exact HR'.out⟩, by have := HLT.out; simp [intOf]; omega⟩
    · obtain rfl : k = l.length := by omega
      rw [List.take_length] at hR
      obtain ⟨va, vc, rfl⟩ := hR.1.form
      have HR := Lib.hid hR
      clear hR hlt
      go_wp2
      go_ret
      exact ⟨_, rfl, HR.out⟩
end Go.Proofs.YtoancpjlkhijiaaGreat
