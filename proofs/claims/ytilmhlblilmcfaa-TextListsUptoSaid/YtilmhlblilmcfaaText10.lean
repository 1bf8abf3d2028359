import Derived.Test.YtilmhlblilmcfaaText9
namespace Go.Proofs.Ytilmhlblilmcfaa
open Go.RowKit
set_option linter.unusedVariables false
set_option maxHeartbeats 400000
theorem ref_join_big (bk o c : Nat) (xs : List ByteArray) (sep : ByteArray) (w : World) (hcells : ∀ (j : Nat) x, xs[j]? = some x → w.cell? ⟨bk, o + j, none⟩ = some (.string x)) (hbk : bk < w.heap.size)
    (hN : xs.length ≤ 140737488355328) (hlen : 65536 < jn sep.size xs xs.length) (hsep : sep.size ≤ 1048576) (hsz : ∀ x ∈ xs, x.size ≤ 1048576) :
    Calls Try.prog 25 #[.string sep, .slice (some ⟨bk, o, none⟩) xs.length c] w fun e w' => e = .returned (.tuple #[.string ⟨#[]⟩, .string ⟨#[77, 101, 109, 111, 114, 121, 69, 114, 114, 111, 114]⟩]) ∧ Below w.heap.size w w' := by
  have HC := Lib.hid hcells
  have HZ := Lib.hid hsz
  have HL := Lib.hid hlen
  clear hcells hsz hlen
  go_enter Try.func25, Try.ntmps25
  go_wp2
  obtain ⟨B, hB⟩ : ∃ B, w.heap.size = B := ⟨_, rfl⟩
  rw [hB]
  go_loopw [6, 7] (fun v i wr => ∃ k : Nat, k ≤ xs.length ∧ i = .int .i64 k ∧ wr.ownsRow B 5 1 v (jn sep.size xs k) (Lib.strCells ⟨(jl sep.data.toList xs k).toArray⟩) ∧ Below B w wr ∧ B ≤ wr.heap.size ∧ (∃ g cap, v = .slice (some ⟨g, 0, none⟩) (jn sep.size xs k) cap) ∧ jn sep.size xs k ≤ 65536) (fun _ i _ => xs.length - (intOf i).toNat)
  case atStart =>
    rw [← hB]
    exact ⟨0, by omega, rfl, World.ownsRow_lit w #[] 0 (Nat.le_refl _) (by unfold maxLen; omega) rfl, (Below.refl _ _).alloc (Nat.le_refl _) _, by simp, ⟨_, _, rfl⟩, Nat.zero_le _⟩
  case round =>
    obtain ⟨k, hk, rfl, hown, hbe, hz, ⟨g, cap, rfl⟩, hle⟩ := hrel
    obtain ⟨i0, hi, hz0, hz1, hz2⟩ := info_parts info_u8
    have hlt : k < xs.length := by
      rcases Nat.lt_or_ge k xs.length with h | h
      · exact h
      · have e : k = xs.length := by omega
        have := HL.out; rw [← e] at this; omega
    · have hxs := HZ.out xs[k] (List.getElem_mem hlt)
      have hst := jn_step sep.size xs k hlt
      have hjs := Lib.hid (jl_step sep.data.toList xs k hlt)
      have hcell : wr.cell? ⟨bk, o + k, none⟩ = some (.string xs[k]) := by
        rw [hbe.cell (p := ⟨bk, o + k, none⟩) (by simpa [hB] using hbk)]; exact HC.out k _ (by simp [hlt])
      have cell2 : ∀ w1, Below B w w1 → w1.cell? ⟨bk, o + k, none⟩ = some (.string xs[k]) := fun w1 h => by
        rw [h.cell (p := ⟨bk, o + k, none⟩) (by simpa [hB] using hbk)]; exact HC.out k _ (by simp [hlt])
      by_cases h0 : 0 < k
      · rw [if_pos h0] at hst
        have HS := Lib.hid hst
        have C2 := Lib.hid cell2
        clear hst cell2
        have tok1 : True := trivial
        have tok2 : True := trivial
        go_wp2_with (first | (at_builtin; have _t := tok1; refine Lib.wpList_append_own_string _ rfl _ _ 45 9 rfl B 5 i0 Try.underlying45 Try.underlying9 hi hz0 hz1 hz2 _ _ _ rfl hown sep rfl (by unfold maxLen; omega) (by omega) hz ?_; intro v1 w1 hown1 hgrow1 hn1; clear tok1; have hb1 := hbe.grown hgrow1 hz (fun j e => (hown.lt j e).1); have hcell1 := C2.out w1 hb1; have hz1' := Nat.le_trans hz hgrow1.size; obtain ⟨g1, cap1, rfl⟩ := own_some hown1 (fun e => by have := (hn1.1 e).1; cases this); clear hn1) | (at_builtin; have _t := tok2; refine Lib.wpList_append_own_string _ rfl _ _ 45 9 rfl B 5 i0 Try.underlying45 Try.underlying9 hi hz0 hz1 hz2 _ _ _ rfl hown1 xs[k] rfl (by unfold maxLen; omega) (by omega) hz1' ?_; intro v2 w2 hown2 hgrow2 hn2; clear tok2; have hb2 := hb1.grown hgrow2 hz1' (fun j e => (hown1.lt j e).1); have hz2' := Nat.le_trans hz1' hgrow2.size; obtain ⟨g2, cap2, rfl⟩ := own_some hown2 (fun e => by have := (hn2.1 e).1; cases this); clear hn2))
        · go_ret2
          exact ⟨rfl, hB ▸ hb2⟩
        refine ⟨⟨k + 1, by omega, by go_num, ?_, hb2, hz2', ⟨g2, cap2, by rw [HS.out]⟩, by rw [HS.out]; omega⟩, by simp [intOf]; omega⟩
        rw [HS.out, hjs.out, if_pos h0, ← strCells_app, ← strCells_app, ← strCells_str, ← strCells_str, ← List.append_assoc]; exact hown2
      · rw [if_neg h0] at hst
        have HS := Lib.hid hst
        clear hst cell2
        go_wp2_with (at_builtin; refine Lib.wpList_append_own_string _ rfl _ _ 45 9 rfl B 5 i0 Try.underlying45 Try.underlying9 hi hz0 hz1 hz2 _ _ _ rfl hown xs[k] rfl (by unfold maxLen; omega) (by omega) hz ?_; intro v2 w2 hown2 hgrow2 hn2; have hb2 := hbe.grown hgrow2 hz (fun j e => (hown.lt j e).1); have hz2' := Nat.le_trans hz hgrow2.size; obtain ⟨g2, cap2, rfl⟩ := own_some hown2 (fun e => by have := (hn2.1 e).1; cases this); clear hn2)
        · go_ret2
          exact ⟨rfl, hB ▸ hb2⟩
        refine ⟨⟨k + 1, by omega, by go_num, ?_, hb2, hz2', ⟨g2, cap2, by rw [HS.out, Nat.add_zero]⟩, by rw [HS.out, Nat.add_zero]; omega⟩, by simp [intOf]; omega⟩
        rw [HS.out, hjs.out, if_neg h0, List.nil_append, ← strCells_app, ← strCells_str, Nat.add_zero]; exact hown2
theorem ref_join_none (a : Option Addr) (c : Nat) (sep : ByteArray) (w : World) :
    Calls Try.prog 25 #[.string sep, .slice a 0 c] w fun e w' => e = .returned (.tuple #[.string ⟨#[]⟩, .string ⟨#[]⟩]) ∧ Below w.heap.size w w' := by
  go_enter Try.func25, Try.ntmps25
  go_wp2
  have hown : (w.alloc (.cells #[] 5)).ownsRow w.heap.size 5 1 (.slice (some ⟨w.heap.size, 0, none⟩) 0 0) 0 (Lib.strCells ⟨([] : List UInt8).toArray⟩) := World.ownsRow_lit w #[] 0 (Nat.le_refl _) (by unfold maxLen; omega) rfl
  have kb := own_to_string Try.underlying45 Try.underlying5 Try.underlying9 hown
  go_loop [6, 7] (fun v i => v = .slice (some ⟨w.heap.size, 0, none⟩) 0 0 ∧ i = .int .i64 0) (fun _ _ => 0)
  case atStart => exact ⟨rfl, rfl⟩
  case round =>
    obtain ⟨rfl, rfl⟩ := hrel
    go_wp2
    go_ret2
    exact ⟨rfl, (Below.refl _ _).alloc (Nat.le_refl _) _⟩
theorem ref_same_none (a b : Option Addr) (ca cb : Nat) (w : World) :
    Calls Try.prog 28 #[.slice a 0 ca, .slice b 0 cb] w fun e w' => e = .returned (.bool true) ∧ w = w' := by
  have h0 : (((0 : Nat) : Int) != ((0 : Nat) : Int)) = false := rfl
  go_enter Try.func28, Try.ntmps28
  go_wp2
  go_loop [5] (fun i => i = .int .i64 0) (fun _ => 0)
  case atStart => exact rfl
  case round =>
    obtain rfl := hrel
    go_wp2
    go_ret
    exact ⟨rfl, rfl⟩
theorem ref_same (a b n ca cb : Nat) (f : Nat → ByteArray) (w : World) (ha : ∀ j, j < n → w.cell? ⟨a, j, none⟩ = some (.string (f j))) (hb : ∀ j, j < n → w.cell? ⟨b, j, none⟩ = some (.string (f j))) (hn : n ≤ 9223372036854775807) :
    Calls Try.prog 28 #[.slice (some ⟨a, 0, none⟩) n ca, .slice (some ⟨b, 0, none⟩) n cb] w fun e w' => e = .returned (.bool true) ∧ ∃ m, w' = w.drewN m := by
  have h0 : ((n : Int) != (n : Int)) = false := by simp
  have HA := Lib.hid ha
  have HB := Lib.hid hb
  clear ha hb
  go_enter Try.func28, Try.ntmps28
  go_wp2
  go_loopw [5] (fun i wr => ∃ k : Nat, k ≤ n ∧ i = .int .i64 k ∧ Hid (∃ m, wr = w.drewN m)) (fun i _ => n - (intOf i).toNat)
  case atStart => exact ⟨0, by omega, rfl, 0, rfl⟩
  case round =>
    obtain ⟨k, hk, rfl, HW⟩ := hrel
    by_cases hlt : k < n
    · have c1 : wr.cell? ⟨a, k, none⟩ = some (.string (f k)) := by obtain ⟨m, hm⟩ := HW.out; subst hm; exact HA.out k hlt
      have c2 : wr.cell? ⟨b, k, none⟩ = some (.string (f k)) := by obtain ⟨m, hm⟩ := HW.out; subst hm; exact HB.out k hlt
      have HN : ∀ n, Hid (∃ j, wr.drewN n = w.drewN j) := fun n => by
        obtain ⟨j, hj⟩ := HW.out; subst hj; exact ⟨j + n, by simp [World.drewN, Nat.add_assoc]⟩
      go_wp2_with fail
      go_quiet (fail)
      go_wp2
      go_roundw
      case rel => exact ⟨k + 1, by omega, by go_num, HN _⟩
      case measure => simp [intOf]; omega
    · go_wp2
      go_ret
      exact ⟨rfl, HW.out⟩
end Go.Proofs.Ytilmhlblilmcfaa
