import Derived.Test.YtilmhlblilmcfaaText8
namespace Go.Proofs.Ytilmhlblilmcfaa
open Go.RowKit
set_option linter.unusedVariables false
set_option maxHeartbeats 400000
def jl (sep : List UInt8) (xs : List ByteArray) : Nat → List UInt8
  | 0 => []
  | k + 1 => jl sep xs k ++ ((if 0 < k then sep else []) ++ (xs.getD k ⟨#[]⟩).data.toList)
theorem jl_length (sep : ByteArray) (xs : List ByteArray) : ∀ k, (jl sep.data.toList xs k).length = jn sep.size xs k
  | 0 => rfl
  | k + 1 => by
    have e3 : sep.data.toList.length = sep.size := rfl
    have e4 : (xs.getD k ⟨#[]⟩).data.toList.length = (xs.getD k ⟨#[]⟩).size := rfl
    rw [jl, jn, List.length_append, List.length_append, jl_length sep xs k, e4]
    split
    · rw [e3]; omega
    · simp
theorem jl_cons (sep : List UInt8) (x : ByteArray) (r : List ByteArray) : ∀ k, k ≤ r.length → jl sep (x :: r) (k + 1) = x.data.toList ++ Lib.joinTail sep ((r.map (·.data.toList)).take k)
  | 0, _ => by simp [jl, Lib.joinTail]
  | k + 1, h => by
    have hk : k < r.length := by omega
    rw [jl, jl_cons sep x r k (by omega), Lib.joinTail_take_succ _ _ k (r[k]).data.toList (by simp [hk])]
    have e : ((x :: r).getD (k + 1) ⟨#[]⟩) = r[k] := by simp [List.getD_eq_getElem?_getD, hk]
    rw [e, if_pos (by omega)]; simp [List.append_assoc]
theorem jl_join (sep : List UInt8) : ∀ (xs : List ByteArray), jl sep xs xs.length = Lib.join (xs.map (·.data.toList)) sep
  | [] => rfl
  | x :: r => by
    rw [List.length_cons, jl_cons sep x r r.length (Nat.le_refl _), List.map_cons, Lib.join_cons, List.take_of_length_le (by simp)]
theorem jl_step (sep : List UInt8) (xs : List ByteArray) (k : Nat) (h : k < xs.length) : jl sep xs (k + 1) = jl sep xs k ++ ((if 0 < k then sep else []) ++ xs[k].data.toList) := by
  simp [jl, List.getD_eq_getElem?_getD, h]
theorem own_some {w : World} {base e size n : Nat} {v : Value} {xs : List Value} (h : w.ownsRow base e size v n xs) (hne : v ≠ .slice none 0 0) : ∃ g cap, v = .slice (some ⟨g, 0, none⟩) n cap := by
  rcases h.2 with ⟨rfl, _⟩ | ⟨g, cap, cur, rfl, _⟩
  · exact absurd rfl hne
  · exact ⟨g, cap, rfl⟩
theorem ref_join_ok (bk o c : Nat) (xs : List ByteArray) (sep : ByteArray) (w : World) (hcells : ∀ (j : Nat) x, xs[j]? = some x → w.cell? ⟨bk, o + j, none⟩ = some (.string x)) (hbk : bk < w.heap.size)
    (hN : xs.length ≤ 140737488355328) (hlen : jn sep.size xs xs.length ≤ 65536) (hpos : 0 < xs.length) :
    Calls Try.prog 25 #[.string sep, .slice (some ⟨bk, o, none⟩) xs.length c] w fun e w' => e = .returned (.tuple #[.string ⟨(Lib.join (xs.map (·.data.toList)) sep.data.toList).toArray⟩, .string ⟨#[]⟩]) ∧ Below w.heap.size w w' := by
  have HC := Lib.hid hcells
  clear hcells
  go_enter Try.func25, Try.ntmps25
  go_wp2
  obtain ⟨B, hB⟩ : ∃ B, w.heap.size = B := ⟨_, rfl⟩
  rw [hB]
  go_loopw [6, 7] (fun v i wr => ∃ k : Nat, k ≤ xs.length ∧ i = .int .i64 k ∧ wr.ownsRow B 5 1 v (jn sep.size xs k) (Lib.strCells ⟨(jl sep.data.toList xs k).toArray⟩) ∧ Below B w wr ∧ B ≤ wr.heap.size ∧ (∃ g cap, v = .slice (some ⟨g, 0, none⟩) (jn sep.size xs k) cap)) (fun _ i _ => xs.length - (intOf i).toNat)
  case atStart =>
    rw [← hB]
    exact ⟨0, by omega, rfl, World.ownsRow_lit w #[] 0 (Nat.le_refl _) (by unfold maxLen; omega) rfl, (Below.refl _ _).alloc (Nat.le_refl _) _, by simp, _, _, rfl⟩
  case round =>
    obtain ⟨k, hk, rfl, hown, hbe, hz, g, cap, rfl⟩ := hrel
    obtain ⟨i0, hi, hz0, hz1, hz2⟩ := info_parts info_u8
    have hm := jn_mono sep.size xs k xs.length hk
    by_cases hlt : k < xs.length
    · have hm2 := jn_mono sep.size xs (k + 1) xs.length hlt
      have hst := jn_step sep.size xs k hlt
      have hjs := Lib.hid (jl_step sep.data.toList xs k hlt)
      have hcell : wr.cell? ⟨bk, o + k, none⟩ = some (.string xs[k]) := by
        rw [hbe.cell (p := ⟨bk, o + k, none⟩) (by simpa [hB] using hbk)]; exact HC.out k _ (by simp [hlt])
      have cell2 : ∀ w1, Below B w w1 → w1.cell? ⟨bk, o + k, none⟩ = some (.string xs[k]) := fun w1 h => by
        rw [h.cell (p := ⟨bk, o + k, none⟩) (by simpa [hB] using hbk)]; exact HC.out k _ (by simp [hlt])
      by_cases h0 : 0 < k
      · rw [if_pos h0] at hst
        have b1 : jn sep.size xs k + sep.size + xs[k].size ≤ 65536 := by omega
        have HS := Lib.hid hst
        have C2 := Lib.hid cell2
        clear hst hm2 cell2
        have tok1 : True := trivial
        have tok2 : True := trivial
        go_wp2_with (first | (at_builtin; have _t := tok1; refine Lib.wpList_append_own_string _ rfl _ _ 45 9 rfl B 5 i0 Try.underlying45 Try.underlying9 hi hz0 hz1 hz2 _ _ _ rfl hown sep rfl (by unfold maxLen; omega) (by omega) hz ?_; intro v1 w1 hown1 hgrow1 hn1; clear tok1; have hb1 := hbe.grown hgrow1 hz (fun j e => (hown.lt j e).1); have hcell1 := C2.out w1 hb1; have hz1' := Nat.le_trans hz hgrow1.size; obtain ⟨g1, cap1, rfl⟩ := own_some hown1 (fun e => by have := (hn1.1 e).1; cases this); clear hn1) | (at_builtin; have _t := tok2; refine Lib.wpList_append_own_string _ rfl _ _ 45 9 rfl B 5 i0 Try.underlying45 Try.underlying9 hi hz0 hz1 hz2 _ _ _ rfl hown1 xs[k] rfl (by unfold maxLen; omega) (by omega) hz1' ?_; intro v2 w2 hown2 hgrow2 hn2; clear tok2; have hb2 := hb1.grown hgrow2 hz1' (fun j e => (hown1.lt j e).1); have hz2' := Nat.le_trans hz1' hgrow2.size; obtain ⟨g2, cap2, rfl⟩ := own_some hown2 (fun e => by have := (hn2.1 e).1; cases this); clear hn2))
        refine ⟨⟨k + 1, by omega, by go_num, ?_, hb2, hz2', g2, cap2, by rw [HS.out]⟩, by simp [intOf]; omega⟩
        rw [HS.out, hjs.out, if_pos h0, ← strCells_app, ← strCells_app, ← strCells_str, ← strCells_str, ← List.append_assoc]; exact hown2
      · rw [if_neg h0] at hst
        have b1 : jn sep.size xs k + xs[k].size ≤ 65536 := by omega
        have HS := Lib.hid hst
        clear hst hm2 cell2
        go_wp2_with (at_builtin; refine Lib.wpList_append_own_string _ rfl _ _ 45 9 rfl B 5 i0 Try.underlying45 Try.underlying9 hi hz0 hz1 hz2 _ _ _ rfl hown xs[k] rfl (by unfold maxLen; omega) (by omega) hz ?_; intro v2 w2 hown2 hgrow2 hn2; have hb2 := hbe.grown hgrow2 hz (fun j e => (hown.lt j e).1); have hz2' := Nat.le_trans hz hgrow2.size; obtain ⟨g2, cap2, rfl⟩ := own_some hown2 (fun e => by have := (hn2.1 e).1; cases this); clear hn2)
        refine ⟨⟨k + 1, by omega, by go_num, ?_, hb2, hz2', g2, cap2, by rw [HS.out, Nat.add_zero]⟩, by simp [intOf]; omega⟩
        rw [HS.out, hjs.out, if_neg h0, List.nil_append, ← strCells_app, ← strCells_str, Nat.add_zero]; exact hown2
    · obtain rfl : k = xs.length := by omega
      rw [jl_join] at hown
      have kb := own_to_string Try.underlying45 Try.underlying5 Try.underlying9 hown
      go_wp2
      go_ret2
      exact ⟨rfl, hB ▸ hbe⟩
end Go.Proofs.Ytilmhlblilmcfaa
