/- Clones of values. -/
import Derived.Test.YtoancpjlkhijiaaDict8
namespace Go.Proofs.Ytoancpjlkhijiaa
open Go.RowKit
set_option linter.unusedVariables false
theorem clone_vals (w : World) (sv : Value) (l : List V) (h : SeesV w sv l) (hlen : l.length ≤ 4194304) :
    Calls Try.prog 48 #[sv] w fun e w' => ∃ v, e = .returned v ∧ slIs w' 26 3 V.cells v l ∧ (∀ b, v.ownBlock = some b → w.heap.size ≤ b) ∧ Below w.heap.size w w' := by
  obtain ⟨a, c, rfl, hcap, hmx, hcs⟩ := h
  have heq : ∀ W, (binOp .eql 22 (.slice a l.length c) (.slice none 0 0)).run Try.prog W = .ok (.bool a.isNone) W := fun W => Lib.run_eql_slice_nil W _ _ _ _ _ _ _ Try.underlying22
  cases a with
  | none =>
    have hl : l = [] := by
      rcases hcs with h | ⟨g, o, h, _⟩
      · exact h
      · cases h
    subst hl
    have heq2 : ∀ W, (binOp .eql 22 (.slice none 0 c) (.slice none 0 0)).run Try.prog W = .ok (.bool true) W := fun W => heq W
    clear hcs heq hcap
    simp only [List.length_nil]
    go_enter Try.func48, Try.ntmps48
    go_wp2
    go_returns
    exact ⟨_, rfl, World.ownsRow_nil _ _ _ _, by simp [Value.ownBlock], Below.refl _ _⟩
  | some p =>
    have hcells : ∀ j u, (l.flatMap V.cells)[j]? = some u → w.cell? (p.add j) = some u := by
      rcases hcs with h | ⟨g, o, h, hh⟩
      · subst h; intro j u hu; simp at hu
      · cases h; exact SeesV.cells hh
    obtain ⟨i0, hi, iz0, iz1, iz2⟩ := info_parts info_val
    have h0 : (w.alloc (.cells #[] 26)).ownsRow 0 26 3 (.slice (some ⟨w.heap.size, 0, none⟩) 0 0) 0 [] := World.ownsRow_made w #[] 0 (Nat.zero_le _) (Nat.zero_le _) rfl
    have HC := Lib.hid hcells
    have heq2 : ∀ W, (binOp .eql 22 (.slice (some p) l.length c) (.slice none 0 0)).run Try.prog W = .ok (.bool false) W := fun W => heq W
    clear hcs hcells heq
    go_enter Try.func48, Try.ntmps48
    go_wp2_with (at_builtin; refine wpList_append_own_at _ rfl _ _ 22 rfl 0 26 i0 _ 3 32 Try.underlying22 hi iz0 iz1 iz2 rfl (by decide) _ _ _ rfl h0 p l.length c (l.flatMap V.cells) rfl ?c1 ?c2 ?c3 ?c4 ?c5 ?c6 ?_)
    case c1 => exact flatMap_length V.cells 3 V.cells_len l
    case c2 => intro j u hu; have hu' := HC.out j u hu; exact (World.cell?_of_block (w := w) (Below.heap_alloc _ _ _ (World.block_lt_of_cell? w _ hu'))).trans hu'
    case c3 => intro u hu; obtain ⟨v, _, hv⟩ := List.mem_flatMap.1 hu; simp [V.cells] at hv; rcases hv with rfl | rfl | rfl <;> rfl
    case c4 => exact Nat.le_trans (show 0 + l.length ≤ 4194304 by omega) (by decide)
    case c5 => omega
    case c6 => exact Nat.zero_le _
    intro v' w1 hown hgr hnil hat
    go_wp2
    go_returns
    have hB : Below w.heap.size w w1 := ((Below.refl w.heap.size w).alloc (Nat.le_refl _) _).grown hgr (by simp) (fun k hk => by simp [Value.ownBlock] at hk; omega)
    refine ⟨v', rfl, ?_, ?_, hB⟩
    · simpa [slIs] using hown
    · intro b hb
      rcases hat with e | e
      · rw [e] at hb; simp [Value.ownBlock] at hb; omega
      · rw [e] at hb; simp at hb; omega
end Go.Proofs.Ytoancpjlkhijiaa
