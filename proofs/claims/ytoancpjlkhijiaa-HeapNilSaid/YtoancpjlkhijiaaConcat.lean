/- slices.Grow, slices.Concat at values. -/
import Derived.Test.YtoancpjlkhijiaaDict9
import Derived.Lib.AppendZeros
namespace Go.Proofs.Ytoancpjlkhijiaa
open Go.RowKit
set_option linter.unusedVariables false
theorem run_append_nothing {P : Program} (w : World) (t ty e : TypeId) (i : TypeInfo) (ht : P.underlying t = some (.slice e)) (hi : P.info? e = some i) (b : Option Addr) (n cap c : Nat) (h : n ≤ cap) :
    (Builtin.append_ #[t, t] ty #[.slice b n cap, .slice none 0 c]).run P w = .ok (.slice b n cap) w := by
  cases b with
  | none => simp [Builtin.append_, run_underlying ht, sizeOf, typeInfo, hi, Builtin.lenOf, Builtin.firstCells, h]
  | some b => simp [Builtin.append_, run_underlying ht, sizeOf, typeInfo, hi, Builtin.lenOf, Builtin.firstCells, loadCells, h, storeCells]
theorem grow_vals (w : World) (n : Nat) (hn : n ≤ 4194304) : Calls Try.prog 78 #[.slice none 0 0, .int .i64 n] w fun e w' =>
    ∃ v, e = .returned v ∧ slIs w' 26 3 V.cells v [] ∧ (∀ b, v.ownBlock = some b → w.heap.size ≤ b) ∧ Below w.heap.size w w' := by
  by_cases h0 : n = 0
  · subst h0
    go_enter Try.func78, Try.ntmps78
    go_wp2
    go_returns
    exact ⟨_, rfl, World.ownsRow_nil _ _ _ _, by simp [Value.ownBlock], Below.refl _ _⟩
  · obtain ⟨i0, hi, iz0, iz1, iz2⟩ := info_parts info_val
    have hrun := fun ty => Lib.run_append_nil_zeros (P := Try.prog) w 22 3 ty 26 i0 _ .i64 .i64 Try.underlying22 Try.underlying3 hi iz0 n (by omega) (by omega) (by omega) (by rw [iz2]; omega)
    have hge := grownCap_ge w n 0 26
    have hle := grownCap_le_maxLen w n 0 26 (Nat.le_trans hn (by decide))
    generalize grownCap w n 0 26 = cap at hrun hge hle
    have hpos : (0 : Int) < n := by omega
    have hpos' : ((n : Int) < 0) = False := by simp
    have hwr : IntKind.i64.wrap ((n : Int) - 0) = n := by rw [IntKind.wrap_i64]; omega
    have HN := Lib.hid hn
    have H0 := Lib.hid h0
    have hcap9 : (cap : Int) ≤ 9223372036854775807 := by unfold maxLen at hle; omega
    have HLE := Lib.hid hle
    clear hn h0 iz0 iz1 iz2 hi hle
    go_enter Try.func78, Try.ntmps78
    go_wp2_with (at_builtin; refine Lib.wpList_append_run _ rfl _ _ _ _ rfl _ _ rfl rfl _ _ (hrun _) ?_)
    go_returns
    refine ⟨_, rfl, ⟨rfl, .inr ⟨w.heap.size, cap, _, rfl, Nat.zero_le _, heapAllocNew w.drew _, Nat.zero_le _, HLE.out, ?_, by simp⟩⟩, by intro b hb; cases hb; exact Nat.le_refl _, ((Below.refl _ _).drew).alloc (Nat.le_refl _) _⟩
    simp only [Array.size_append, size_zeroCells]
    simp
    omega
/-- What is put together, and where it lies. -/
def SeesAll (w : World) (B : Nat) (ss : List (Value × List V)) : Prop := ∀ (i : Nat) sv l, ss[i]? = some (sv, l) → w.cell? ⟨B, i, none⟩ = some sv ∧ SeesV w sv l
def catLen (ss : List (Value × List V)) (k : Nat) : Nat := ((ss.take k).flatMap (·.2)).length
theorem catLen_succ {ss : List (Value × List V)} {k : Nat} {sv : Value} {l : List V} (h : ss[k]? = some (sv, l)) : catLen ss (k + 1) = catLen ss k + l.length := by
  unfold catLen; rw [List.take_add_one, h]; simp
theorem catLen_le (ss : List (Value × List V)) (k : Nat) : catLen ss k ≤ (ss.flatMap (·.2)).length := by
  unfold catLen
  conv => rhs; rw [← List.take_append_drop k ss, List.flatMap_append, List.length_append]
  omega
def CatRel (w : World) (ss : List (Value × List V)) (k : Nat) (v : Value) (wr : World) : Prop :=
  slIs wr 26 3 V.cells v ((ss.take k).flatMap (·.2)) ∧ (∀ b, v.ownBlock = some b → w.heap.size ≤ b) ∧ Below w.heap.size w wr
theorem slIs.below {α : Type} {w w' : World} {e : TypeId} {m : Nat} {f : α → List Value} {rv : Value} {l : List α} (h : slIs w e m f rv l) (hb : Below w.heap.size w w') : slIs w' e m f rv l := h.of_block fun g hg => hb.block g (h.lt g hg)
set_option maxRecDepth 100000 in
set_option maxHeartbeats 800000 in
theorem concat_vals (w : World) (B c : Nat) (ss : List (Value × List V)) (hs : SeesAll w B ss) (hn : ss.length ≤ 1000) (hc : ss.length ≤ c) (hlen : (ss.flatMap (·.2)).length ≤ 4194304) :
    Calls Try.prog 47 #[.slice (some ⟨B, 0, none⟩) ss.length c] w fun e w' =>
      ∃ v, e = .returned v ∧ slIs w' 26 3 V.cells v (ss.flatMap (·.2)) ∧ (∀ b, v.ownBlock = some b → w.heap.size ≤ b) ∧ Below w.heap.size w w' := by
  have HS := Lib.hid hs
  have HL := Lib.hid hlen
  have HN := Lib.hid hn
  have hbig : (ss.length : Int) ≤ 9223372036854775807 := by omega
  clear hs hlen hn
  go_enter Try.func47, Try.ntmps47
  go_wp2
  go_loop [3, 11] (fun t i => ∃ k : Nat, k ≤ ss.length ∧ i = .int .i64 k ∧ t = .int .i64 (catLen ss k)) (fun _ i => ss.length - (intOf i).toNat)
  case atStart => exact ⟨0, by omega, rfl, rfl⟩
  case round =>
    obtain ⟨k, hk, rfl, rfl⟩ := hrel
    by_cases hlt : k < ss.length
    · obtain ⟨⟨sv, l⟩, hx⟩ : ∃ x, ss[k]? = some x := ⟨ss[k], by simp [hlt]⟩
      obtain ⟨hcell, a, cap, rfl, q1, q2, q3⟩ := HS.out k sv l hx
      have HX := Lib.hid (catLen_succ hx)
      have hle1 := catLen_le ss (k + 1)
      rw [catLen_succ hx] at hle1
      have hH := HL.out
      have hb1 : (catLen ss k : Int) + l.length ≤ 4194304 := by omega
      have hil : (k : Int) < ss.length := by omega
      unfold maxLen at q2
      clear hx q3 hle1 hH
      go_wp2
      go_round
      case rel => exact ⟨k + 1, by omega, by go_num, by rw [HX.out]; go_num⟩
      case measure => simp [intOf]; omega
    · have : k = ss.length := by omega
      subst this
      have hle1 := catLen_le ss ss.length
      have hH := HL.out
      have hG := Lib.hid (fun W => grow_vals W (catLen ss ss.length) (by omega))
      clear hle1 hH
      go_wp2_with fail
      refine (hG.out _).mono ?_
      rintro e w1 ⟨v1, rfl, d1, d2, d3⟩
      go_wp2
      go_loopw [6, 27] (fun v i wr => ∃ k : Nat, k ≤ ss.length ∧ i = .int .i64 k ∧ CatRel w ss k v wr) (fun _ i _ => ss.length - (intOf i).toNat)
      case atStart => exact ⟨0, by omega, rfl, by simpa using d1, d2, d3⟩
      case round =>
        clear d1 d2 d3
        obtain ⟨k, hk, rfl, d1, d2, d3⟩ := hrel
        by_cases hlt : k < ss.length
        · obtain ⟨⟨sv, l⟩, hx⟩ : ∃ x, ss[k]? = some x := ⟨ss[k], by simp [hlt]⟩
          obtain ⟨hcell, hsv⟩ := HS.out k sv l hx
          have hcell1 := cell_later d3 hcell
          have hsv1 := hsv.keep (w' := wr) fun p v hp => cell_later d3 hp
          obtain ⟨a, cap, rfl, q1, q2, q3⟩ := hsv1
          have hil : (k : Int) < ss.length := by omega
          have hst : (ss.take (k + 1)).flatMap (·.2) = (ss.take k).flatMap (·.2) ++ l := by rw [List.take_add_one, hx]; simp
          have hle1 := catLen_le ss (k + 1)
          rw [catLen_succ hx] at hle1
          unfold catLen at hle1
          generalize hxs : (ss.take k).flatMap (·.2) = xs at *
          obtain ⟨va, vcap, rfl⟩ := d1.form
          have HST := Lib.hid hst
          have HLE := Lib.hid hle1
          have hvc : xs.length ≤ vcap := by rcases d1.shape with ⟨h1, h2⟩ | ⟨g', cap, h1, h2, _⟩; (rw [h2]; exact Nat.zero_le _); (cases h1; exact h2)
          obtain ⟨i0, hi, iz0, iz1, iz2⟩ := info_parts info_val
          clear hx hst hxs hle1 hcell hsv
          cases a with
          | none =>
            have hl : l = [] := by
              rcases q3 with h | ⟨g, o, h, _⟩
              · exact h
              · cases h
            subst hl
            simp only [List.length_nil] at hcell1
            have hrun := fun ty => run_append_nothing (P := Try.prog) wr 22 ty 26 i0 Try.underlying22 hi va xs.length vcap cap hvc
            clear hvc q1 q2 q3
            go_wp2_with (at_builtin; refine Lib.wpList_append_run _ rfl _ _ _ _ rfl _ _ rfl rfl _ _ (hrun _) ?_)
            refine ⟨⟨k + 1, by omega, by go_num, ?_, d2, d3⟩, by simp [intOf]; omega⟩
            rw [HST.out, List.append_nil]; exact d1
          | some p =>
            have hcells : ∀ j u, (l.flatMap V.cells)[j]? = some u → wr.cell? (p.add j) = some u := by
              rcases q3 with h | ⟨g, o, h, hh⟩
              · subst h; intro j u hu; simp at hu
              · cases h; exact SeesV.cells hh
            have HC := Lib.hid hcells
            have D1 := Lib.hid d1
            have hxl : xs.length ≤ 4194304 := by have := HLE.out; have := HL.out; omega
            have HXL := Lib.hid hxl
            clear q1 q2 q3 hcells d1 hxl
            go_wp2_with (at_builtin; refine wpList_append_own_at _ rfl _ _ 22 rfl 0 26 i0 _ 3 32 Try.underlying22 hi iz0 iz1 iz2 rfl (by decide) _ xs.length (xs.flatMap V.cells) rfl D1.out p l.length cap (l.flatMap V.cells) rfl ?c1 ?c2 ?c3 ?c4 ?c5 ?c6 ?_)
            case c1 => exact flatMap_length V.cells 3 V.cells_len l
            case c2 => exact HC.out
            case c3 => intro u hu; obtain ⟨v, _, hv⟩ := List.mem_flatMap.1 hu; simp [V.cells] at hv; rcases hv with rfl | rfl | rfl <;> rfl
            case c4 => have := HLE.out; have := HL.out; exact Nat.le_trans (show xs.length + l.length ≤ 4194304 by omega) (by decide)
            case c5 => have := HLE.out; have := HL.out; omega
            case c6 => exact Nat.zero_le _
            intro v' w1 hown hgr hnil hat
            have HI := Lib.hid (And.intro hown (And.intro hgr hat))
            clear hown hgr hnil hat
            go_wp2
            obtain ⟨hown, hgr, hat⟩ := HI.out
            refine ⟨⟨k + 1, by omega, by go_num, ?_, ?_, ?_⟩, by simp [intOf]; omega⟩
            · rw [HST.out]
              refine ⟨flatMap_length _ _ V.cells_len _, ?_⟩
              have := hown.2
              rw [List.flatMap_append, List.length_append]
              exact this
            · intro b hb
              rcases hat with e | e
              · exact d2 b (by rw [← e]; exact hb)
              · rw [e] at hb; cases hb; exact d3.size
            · exact d3.grown hgr d3.size (fun k hk => d2 k hk)
        · have : k = ss.length := by omega
          subst this
          rw [List.take_length] at d1
          obtain ⟨oa, ocap, rfl⟩ := d1.form
          go_wp2
          go_ret
          exact ⟨_, rfl, d1, d2, d3⟩
end Go.Proofs.Ytoancpjlkhijiaa
