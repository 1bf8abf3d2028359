import Derived.Test.YtijlebhoapdfnaaGreatDictB
/- Dicts: Del. -/
namespace Go.Proofs.YtijlebhoapdfnaaGreat
set_option linter.unusedSimpArgs false
open Go.RowKit
set_option linter.unusedVariables false
end Go.Proofs.YtijlebhoapdfnaaGreat
/- Clones of slices. -/
namespace Go.Proofs.YtijlebhoapdfnaaGreat
set_option linter.unusedSimpArgs false
open Go.RowKit
set_option linter.unusedVariables false
theorem V.cells_len (v : V) : v.cells.length = 3 := rfl
theorem clone_rows (w : World) (g c : Nat) (rows : List Row) (h : slIs w 199 7 rowCells (.slice (some ⟨g, 0, none⟩) rows.length c) rows) (hlen : rows.length ≤ 100000) :
  Calls Tryz.prog 220 #[.slice (some ⟨g, 0, none⟩) rows.length c] w fun e w' => ∃ v, e = .returned v ∧ slIs w' 199 7 rowCells v rows ∧ (∀ b, v.ownBlock = some b → w.heap.size ≤ b) ∧ Below w.heap.size w w' := by
 go_enter Tryz.func220, Tryz.ntmps220
 have heq : ∀ W, (binOp .eql 192 (.slice (some ⟨g, 0, none⟩) rows.length c) (.slice none 0 0)).run Tryz.prog W = .ok (.bool false) W := fun W => Lib.run_eql_slice_nil W _ _ _ _ _ _ _ Tryz.underlying192
 obtain ⟨i0, hi, iz0, iz1, iz2⟩ := info_parts info_pair
 have glt := h.lt g rfl
 have hcap : rows.length ≤ c := by rcases h.shape with ⟨h1, h2⟩ | ⟨g', cap, h1, h2, _⟩; cases h1; cases h1; exact h2
 have h0 : (w.alloc (.cells #[] 199)).ownsRow 0 199 7 (.slice (some ⟨w.heap.size, 0, none⟩) 0 0) 0 [] := World.ownsRow_made w #[] 0 (Nat.zero_le _) (Nat.zero_le _) rfl
 go_wp2_with (at_builtin; refine wpList_append_own_at _ rfl _ _ 192 rfl 0 199 i0 _ 7 72 Tryz.underlying192 hi iz0 iz1 iz2 rfl (by decide) _ _ _ rfl h0 ⟨g, 0, none⟩ rows.length c (rows.flatMap rowCells) rfl ?c1 ?c2 ?c3 ?c4 ?c5 ?c6 ?_)
 case c1 => exact flatMap_length rowCells 7 rowCells_len rows
 case c2 => exact (World.ownsRow.alloc h (.cells #[] 199)).cells rfl
 case c3 => intro u hu; obtain ⟨p, _, hp⟩ := List.mem_flatMap.1 hu; simp [rowCells] at hp; rcases hp with rfl | rfl | rfl | rfl | rfl | rfl | rfl <;> rfl
 case c4 => exact Nat.le_trans (show 0 + rows.length ≤ 100000 by omega) (by decide)
 case c5 => omega
 case c6 => exact Nat.zero_le _
 intro v' w1 hown hgr hnil hat
 go_wp2
 go_returns
 have hB : Below w.heap.size w w1 := ((Below.refl w.heap.size w).alloc (Nat.le_refl _) _).grown hgr (by simp) (fun k hk => by simp [Value.ownBlock] at hk; omega)
 refine ⟨v', rfl, ?_, ?_, hB⟩
 ·
  simpa [slIs] using hown
 ·
  intro b hb
  rcases hat with e | e
  ·
   rw [e] at hb; simp [Value.ownBlock] at hb; omega
  ·
   rw [e] at hb; simp at hb; omega
theorem info_val : (Tryz.prog.info? 24).map (fun i => (i.zero, i.size, i.bytes)) = some (some (.agg #[.int .i64 0, .int .i64 0, .string ⟨#[]⟩]), 3, 32) := by kernel_rfl
theorem slIs.sees {w : World} {g c : Nat} {l : List V} (h : slIs w 24 3 V.cells (.slice (some ⟨g, 0, none⟩) l.length c) l) : SeesV w (.slice (some ⟨g, 0, none⟩) l.length c) l := by
 have h2 : l.length ≤ c ∧ c ≤ maxLen := by rcases h.shape with ⟨h1, h2⟩ | ⟨g', cap, h1, h2, h3, _⟩; cases h1; cases h1; exact ⟨h2, h3⟩
 refine ⟨_, _, rfl, h2.1, h2.2, .inr ⟨g, 0, rfl, fun i v hv => ?_⟩⟩
 have a0 := h.cell V.cells_len rfl hv (j := 0) rfl
 have a1 := h.cell V.cells_len rfl hv (j := 1) rfl
 have a2 := h.cell V.cells_len rfl hv (j := 2) rfl
 simp only [Nat.zero_add]
 exact ⟨a0, a1, a2⟩
theorem slIs.sees' {w : World} {rv : Value} {l : List V} (h : slIs w 24 3 V.cells rv l) : SeesV w rv l := by
 rcases h.shape with ⟨rfl, rfl⟩ | ⟨g, cap, rfl, h1, h2, h3⟩
 ·
  exact ⟨none, 0, rfl, by simp, by simp, .inl rfl⟩
 ·
  exact h.sees
theorem SeesV.cells {w : World} {g o : Nat} {l : List V} (h : ∀ i v, l[i]? = some v → w.cell? ⟨g, o + i * 3, none⟩ = some (.int .i64 v.kind) ∧ w.cell? ⟨g, o + i * 3 + 1, none⟩ = some (.int .i64 v.n) ∧ w.cell? ⟨g, o + i * 3 + 2, none⟩ = some (.string v.s)) :
  ∀ j u, (l.flatMap V.cells)[j]? = some u → w.cell? ((⟨g, o, none⟩ : Addr).add j) = some u := by
 intro j u hu
 have hadd : (⟨g, o, none⟩ : Addr).add j = ⟨g, o + j, none⟩ := by unfold Addr.add; split <;> simp_all
 rw [hadd]
 have hj : j = j / 3 * 3 + j % 3 := by omega
 rw [hj, flatMap_get V.cells 3 V.cells_len l (j / 3) (j % 3) (Nat.mod_lt _ (by omega))] at hu
 obtain ⟨v, hv, hu⟩ := Option.bind_eq_some_iff.1 hu
 obtain ⟨h0, h1, h2⟩ := h _ v hv
 have hm : j % 3 = 0 ∨ j % 3 = 1 ∨ j % 3 = 2 := by omega
 rcases hm with e | e | e
 ·
  rw [e] at hu; simp [V.cells] at hu; subst hu; rw [show o + j = o + j / 3 * 3 by omega]; exact h0
 ·
  rw [e] at hu; simp [V.cells] at hu; subst hu; rw [show o + j = o + j / 3 * 3 + 1 by omega]; exact h1
 ·
  rw [e] at hu; simp [V.cells] at hu; subst hu; rw [show o + j = o + j / 3 * 3 + 2 by omega]; exact h2
end Go.Proofs.YtijlebhoapdfnaaGreat
/- Clones of values. -/
namespace Go.Proofs.YtijlebhoapdfnaaGreat
set_option linter.unusedSimpArgs false
open Go.RowKit
set_option linter.unusedVariables false
theorem clone_vals (w : World) (sv : Value) (l : List V) (h : SeesV w sv l) (hlen : l.length ≤ 4194304) :
  Calls Tryz.prog 152 #[sv] w fun e w' => ∃ v, e = .returned v ∧ slIs w' 24 3 V.cells v l ∧ (∀ b, v.ownBlock = some b → w.heap.size ≤ b) ∧ Below w.heap.size w w' := by
 obtain ⟨a, c, rfl, hcap, hmx, hcs⟩ := h
 have heq : ∀ W, (binOp .eql 56 (.slice a l.length c) (.slice none 0 0)).run Tryz.prog W = .ok (.bool a.isNone) W := fun W => Lib.run_eql_slice_nil W _ _ _ _ _ _ _ Tryz.underlying56
 cases a with
 | none =>
  have hl : l = [] := by
   rcases hcs with h | ⟨g, o, h, _⟩
   ·
    exact h
   ·
    cases h
  subst hl
  have heq2 : ∀ W, (binOp .eql 56 (.slice none 0 c) (.slice none 0 0)).run Tryz.prog W = .ok (.bool true) W := fun W => heq W
  clear hcs heq hcap
  simp only [List.length_nil]
  go_enter Tryz.func152, Tryz.ntmps152
  go_wp2
  go_returns
  exact ⟨_, rfl, World.ownsRow_nil _ _ _ _, by simp [Value.ownBlock], Below.refl _ _⟩
 | some p =>
  have hcells : ∀ j u, (l.flatMap V.cells)[j]? = some u → w.cell? (p.add j) = some u := by
   rcases hcs with h | ⟨g, o, h, hh⟩
   ·
    subst h; intro j u hu; simp at hu
   ·
    cases h; exact SeesV.cells hh
  obtain ⟨i0, hi, iz0, iz1, iz2⟩ := info_parts info_val
  have h0 : (w.alloc (.cells #[] 24)).ownsRow 0 24 3 (.slice (some ⟨w.heap.size, 0, none⟩) 0 0) 0 [] := World.ownsRow_made w #[] 0 (Nat.zero_le _) (Nat.zero_le _) rfl
  have HC := Lib.hid hcells
  have heq2 : ∀ W, (binOp .eql 56 (.slice (some p) l.length c) (.slice none 0 0)).run Tryz.prog W = .ok (.bool false) W := fun W => heq W
  clear hcs hcells heq
  go_enter Tryz.func152, Tryz.ntmps152
  go_wp2_with (at_builtin; refine wpList_append_own_at _ rfl _ _ 56 rfl 0 24 i0 _ 3 32 Tryz.underlying56 hi iz0 iz1 iz2 rfl (by decide) _ _ _ rfl h0 p l.length c (l.flatMap V.cells) rfl ?c1 ?c2 ?c3 ?c4 ?c5 ?c6 ?_)
  case c1 => exact flatMap_length V.cells 3 V.cells_len l
  case c2 => intro j u hu; have hu' := HC.out j u hu; exact (World.cell?_of_block (w := w) (Below.heap_alloc _ _ _ (World.block_lt_of_cell? w _ hu'))).trans hu'
  case c3 => intro u hu; obtain ⟨v, _, hv⟩ := List.mem_flatMap.1 hu; simp [V.cells] at hv; rcases hv with rfl | rfl | rfl <;> rfl
  case c4 => exact Nat.le_trans (show 0 + l.length ≤ 4194304 by omega) (by decide)
  case c5 => omega
  case c6 => exact Nat.zero_le _
  intro v' w1 hown hgr hnil hat
  go_wp2
  go_returns
  have hB : Below w.heap.size w w1 := ((Below.refl w.heap.size w).alloc (Nat.le_refl _) _).grown hgr (by simp) (fun k hk => by simp [Value.ownBlock] at hk; omega)
  refine ⟨v', rfl, ?_, ?_, hB⟩
  ·
   simpa [slIs] using hown
  ·
   intro b hb
   rcases hat with e | e
   ·
    rw [e] at hb; simp [Value.ownBlock] at hb; omega
   ·
    rw [e] at hb; simp at hb; omega
end Go.Proofs.YtijlebhoapdfnaaGreat
