import Derived.Test.YtilmhlblilmcfaaText3
import Derived.Lib.Join
namespace Go.Proofs.Ytilmhlblilmcfaa
open Go.RowKit
set_option linter.unusedVariables false
def jn (sep : Nat) (xs : List ByteArray) : Nat → Nat
  | 0 => 0
  | k + 1 => jn sep xs k + (if 0 < k then sep else 0) + (xs.getD k ⟨#[]⟩).size
theorem jn_mono (sep : Nat) (xs : List ByteArray) (k : Nat) : ∀ j, k ≤ j → jn sep xs k ≤ jn sep xs j
  | 0, h => by obtain rfl : k = 0 := by omega
               exact Nat.le_refl _
  | j + 1, h => by
    by_cases e : k = j + 1
    · subst e; exact Nat.le_refl _
    · have := jn_mono sep xs k j (by omega); simp only [jn]; omega
theorem jn_snoc (sep : Nat) (xs : List ByteArray) (x : ByteArray) : ∀ k, k ≤ xs.length → jn sep (xs ++ [x]) k = jn sep xs k
  | 0, _ => rfl
  | k + 1, h => by
    simp only [jn, jn_snoc sep xs x k (by omega)]
    rw [List.getD_eq_getElem?_getD, List.getD_eq_getElem?_getD, List.getElem?_append_left (by omega)]
theorem jn_cons (sep : ByteArray) (x : ByteArray) (r : List ByteArray) : ∀ k, k ≤ r.length → jn sep.size (x :: r) (k + 1) = x.size + (Lib.joinTail sep.data.toList ((r.map (·.data.toList)).take k)).length
  | 0, _ => by simp [jn, Lib.joinTail]
  | k + 1, h => by
    have hk : k < r.length := by omega
    rw [jn, jn_cons sep x r k (by omega), Lib.joinTail_take_succ _ _ k (r[k]).data.toList (by simp [hk])]
    have e : ((x :: r).getD (k + 1) ⟨#[]⟩) = r[k] := by simp [List.getD_eq_getElem?_getD, hk]
    have e2 : (r[k]).data.toList.length = (r[k]).size := rfl
    have e3 : sep.data.toList.length = sep.size := rfl
    rw [e, if_pos (by omega), List.length_append, List.length_append, e2, e3]; omega
theorem jn_join (sep : ByteArray) : ∀ (xs : List ByteArray), jn sep.size xs xs.length = (Lib.join (xs.map (·.data.toList)) sep.data.toList).length
  | [] => rfl
  | x :: r => by
    rw [List.length_cons, jn_cons sep x r r.length (Nat.le_refl _), List.map_cons, Lib.join_cons, List.length_append, List.take_of_length_le (by simp)]
    rfl
theorem jn_step (sep : Nat) (xs : List ByteArray) (k : Nat) (h : k < xs.length) : jn sep xs (k + 1) = jn sep xs k + (if 0 < k then sep else 0) + xs[k].size := by
  simp [jn, List.getD_eq_getElem?_getD, h]
set_option maxHeartbeats 400000 in
theorem join_ok (bk o c : Nat) (xs : List ByteArray) (sep : ByteArray) (w : World) (hcells : ∀ (j : Nat) x, xs[j]? = some x → w.cell? ⟨bk, o + j, none⟩ = some (.string x)) (hbk : bk < w.heap.size)
    (hN : xs.length ≤ 140737488355328) (hcap : xs.length ≤ c) (hlen : jn sep.size xs xs.length ≤ 65536) (hsep : sep.size ≤ 140737488355328) (hpos : 0 < xs.length) :
    Calls Try.prog 24 #[.string sep, .slice (some ⟨bk, o, none⟩) xs.length c] w fun e w' => e = .returned (.tuple #[.string ⟨(Lib.join (xs.map (·.data.toList)) sep.data.toList).toArray⟩, .string ⟨#[]⟩]) ∧ Below w.heap.size w w' := by
  have HC := Lib.hid hcells
  clear hcells
  go_enter Try.func24, Try.ntmps24
  go_wp2_with fail
  go_loop [6, 11] (fun t i => ∃ k : Nat, k ≤ xs.length ∧ i = .int .i64 k ∧ t = .int .i64 (jn sep.size xs k)) (fun _ i => xs.length - (intOf i).toNat)
  case atStart => exact ⟨0, by omega, rfl, rfl⟩
  case round =>
    obtain ⟨k, hk, rfl, rfl⟩ := hrel
    have hm := jn_mono sep.size xs k xs.length hk
    by_cases hlt : k < xs.length
    · have hm2 := jn_mono sep.size xs (k + 1) xs.length hlt
      have hst := jn_step sep.size xs k hlt
      have hcell : w.cell? ⟨bk, o + k, none⟩ = some (.string xs[k]) := HC.out k _ (by simp [hlt])
      by_cases h0 : 0 < k
      · rw [if_pos h0] at hst
        have b1 : jn sep.size xs k + sep.size + xs[k].size ≤ 65536 := by omega
        have HS := Lib.hid hst
        clear hst hm2
        go_wp2
        go_round
        case rel => exact ⟨k + 1, by omega, by go_num, by rw [HS.out]; go_num⟩
        case measure => simp [intOf]; omega
      · rw [if_neg h0] at hst
        have b1 : jn sep.size xs k + xs[k].size ≤ 65536 := by omega
        have HS := Lib.hid hst
        clear hst hm2
        go_wp2
        go_round
        case rel => exact ⟨k + 1, by omega, by go_num, by rw [HS.out]; go_num⟩
        case measure => simp [intOf]; omega
    · go_wp2_with fail
      refine (Try.strings_Join bk o c xs sep w HC.out hbk hN hcap (by rw [← jn_join]; omega)).mono ?_
      rintro e w' ⟨rfl, hb⟩
      change Below _ _ _ at hb
      go_wp2
      go_ret2
      exact ⟨rfl, hb⟩
set_option maxHeartbeats 400000 in
theorem join_none (a : Option Addr) (c : Nat) (sep : ByteArray) (w : World) :
    Calls Try.prog 24 #[.string sep, .slice a 0 c] w fun e w' => e = .returned (.tuple #[.string ⟨#[]⟩, .string ⟨#[]⟩]) ∧ w = w' := by
  go_enter Try.func24, Try.ntmps24
  go_wp2_with fail
  go_loop [6, 11] (fun t i => i = .int .i64 0 ∧ t = .int .i64 0) (fun _ i => 0)
  case atStart => exact ⟨rfl, rfl⟩
  case round =>
    obtain ⟨rfl, rfl⟩ := hrel
    go_wp2_with fail
    refine (Try.strings_Join_none a c sep w).mono ?_
    rintro e w' ⟨rfl, rfl⟩
    go_wp2
    go_ret2
    exact ⟨rfl, rfl⟩
set_option maxHeartbeats 400000 in
theorem join_big (bk o c : Nat) (xs : List ByteArray) (sep : ByteArray) (w : World) (hcells : ∀ (j : Nat) x, xs[j]? = some x → w.cell? ⟨bk, o + j, none⟩ = some (.string x))
    (hsz : ∀ x ∈ xs, x.size ≤ 140737488355328)
    (hN : xs.length ≤ 140737488355328) (hlen : 65536 < jn sep.size xs xs.length) (hsep : sep.size ≤ 140737488355328) :
    Calls Try.prog 24 #[.string sep, .slice (some ⟨bk, o, none⟩) xs.length c] w fun e w' => e = .returned (.tuple #[.string ⟨#[]⟩, .string ⟨#[77, 101, 109, 111, 114, 121, 69, 114, 114, 111, 114]⟩]) ∧ w = w' := by
  have HC := Lib.hid hcells
  have HZ := Lib.hid hsz
  have HL := Lib.hid hlen
  clear hcells hsz hlen
  go_enter Try.func24, Try.ntmps24
  go_wp2_with fail
  go_loop [6, 11] (fun t i => ∃ k : Nat, k ≤ xs.length ∧ i = .int .i64 k ∧ t = .int .i64 (jn sep.size xs k) ∧ jn sep.size xs k ≤ 65536) (fun _ i => xs.length - (intOf i).toNat)
  case atStart => exact ⟨0, by omega, rfl, rfl, Nat.zero_le _⟩
  case round =>
    obtain ⟨k, hk, rfl, rfl, hm⟩ := hrel
    have hlt : k < xs.length := by
      rcases Nat.lt_or_ge k xs.length with h | h
      · exact h
      · have e : k = xs.length := by omega
        have := HL.out; rw [← e] at this; omega
    have hst := jn_step sep.size xs k hlt
    have hxs := HZ.out xs[k] (List.getElem_mem hlt)
    have hcell : w.cell? ⟨bk, o + k, none⟩ = some (.string xs[k]) := HC.out k _ (by simp [hlt])
    by_cases h0 : 0 < k
    · rw [if_pos h0] at hst
      by_cases b1 : jn sep.size xs k + sep.size + xs[k].size ≤ 65536
      · have HS := Lib.hid hst
        clear hst
        go_wp2
        go_round
        case rel => exact ⟨k + 1, by omega, by go_num, by rw [HS.out]; go_num, by rw [HS.out]; exact b1⟩
        case measure => simp [intOf]; omega
      · clear hst
        go_wp2
        go_ret2
        exact ⟨rfl, rfl⟩
    · rw [if_neg h0] at hst
      by_cases b1 : jn sep.size xs k + xs[k].size ≤ 65536
      · have HS := Lib.hid hst
        clear hst
        go_wp2
        go_round
        case rel => exact ⟨k + 1, by omega, by go_num, by rw [HS.out]; go_num, by rw [HS.out]; exact b1⟩
        case measure => simp [intOf]; omega
      · clear hst
        go_wp2
        go_ret2
        exact ⟨rfl, rfl⟩
end Go.Proofs.Ytilmhlblilmcfaa
