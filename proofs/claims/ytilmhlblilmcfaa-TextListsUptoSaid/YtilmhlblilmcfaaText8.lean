import Derived.Test.YtilmhlblilmcfaaText7
import Derived.Lib.AppendStr
import Derived.Laws.OwnMore
import Derived.Lib.Repeat
import Derived.Lib.Strings
namespace Go.Proofs.Ytilmhlblilmcfaa
open Go.RowKit
set_option linter.unusedVariables false
set_option maxHeartbeats 400000
theorem info_u8 : (Try.prog.info? 5).map (fun i => (i.zero, i.size, i.bytes)) = some (some (.int .u8 0), 1, 1) := by kernel_rfl
theorem extract_list (s : ByteArray) (i j : Nat) : (s.extract i j).data.toList = (s.data.toList.drop i).take (j - i) := by
  rw [Lib.extract_data]
theorem occ_extract (s sub : ByteArray) (i : Nat) (h : i + sub.size ≤ s.size) : ((s.extract i (i + sub.size)).toList == sub.toList) = Lib.occAt s.data.toList sub.data.toList i := by
  have e3 : sub.data.toList.length = sub.size := rfl
  rw [Lib.occAt_iff_take _ _ _ (by rw [e3]; exact h), ByteArray.toList_eq, ByteArray.toList_eq, extract_list, e3, Nat.add_sub_cancel_left]
theorem own_to_string {P : Program} {w : World} {B g n cap src dst e : Nat} {l : List UInt8} (hs : P.underlying src = some (.slice e)) (he : P.underlying e = some (.int .u8)) (hd : P.underlying dst = some .string)
    (h : w.ownsRow B e 1 (.slice (some ⟨g, 0, none⟩) n cap) n (Lib.strCells ⟨l.toArray⟩)) : (convert src dst (.slice (some ⟨g, 0, none⟩) n cap)).run P w = .ok (.string ⟨l.toArray⟩) w := by
  have hl : n = l.length := by have := h.1; rw [Lib.strCells_length] at this; simpa [ByteArray.size] using this.symm
  have := run_convert_bytes_back (P := P) w src dst e ⟨g, 0, none⟩ cap l hs he hd (fun j hj => h.cells rfl j _ (by simp [Lib.strCells, hj]))
  rw [← hl] at this; exact this
theorem strCells_app (l m : List UInt8) : Lib.strCells ⟨l.toArray⟩ ++ Lib.strCells ⟨m.toArray⟩ = Lib.strCells ⟨(l ++ m).toArray⟩ := by simp [Lib.strCells]
theorem strCells_str (s : ByteArray) : Lib.strCells s = Lib.strCells ⟨s.data.toList.toArray⟩ := by simp [Lib.strCells]
theorem ref_at (s sub : ByteArray) (i : Nat) (w : World) (hs : s.size ≤ maxLen) (hsub : sub.size ≤ maxLen) (hi : i ≤ s.size) :
   Calls Try.prog 38 #[.string s, .string sub, .int .i64 i] w fun e w' => e = .returned (.bool (Lib.occAt s.data.toList sub.data.toList i)) ∧ w = w' := by
  unfold maxLen at hs hsub
  by_cases hr : i + sub.size ≤ s.size
  · go_enter Try.func38, Try.ntmps38
    go_wp2
    go_ret
    exact ⟨ret_b (occ_extract s sub i hr), rfl⟩
  · go_enter Try.func38, Try.ntmps38
    go_wp2
    go_ret
    refine ⟨ret_b ?_, rfl⟩
    cases h : Lib.occAt s.data.toList sub.data.toList i with
    | false => rfl
    | true =>
      have e1 : s.data.toList.length = s.size := rfl
      have e2 : sub.data.toList.length = sub.size := rfl
      rcases Lib.occAt_room h with h1 | h1
      · omega
      · rw [h1] at e2; simp at e2; omega
theorem ref_find (s sub : ByteArray) (w : World) (hs : s.size ≤ 9223372036854775806) (hsub : sub.size ≤ maxLen) :
   Calls Try.prog 30 #[.string s, .string sub] w fun e w' => e = .returned (.int .i64 (Lib.index s.data.toList sub.data.toList)) ∧ w = w' := by
  go_enter Try.func30, Try.ntmps30
  go_wp2
  go_loop [5] (fun i => ∃ k : Nat, k ≤ s.size + 1 ∧ i = .int .i64 k ∧ Hid (∀ j, j < k → Lib.occAt s.data.toList sub.data.toList j = false)) (fun i => s.size + 1 - (intOf i).toNat)
  case atStart => exact ⟨0, by omega, rfl, fun j hj => absurd hj (Nat.not_lt_zero _)⟩
  case round =>
    obtain ⟨k, hk, rfl, H⟩ := hrel
    by_cases hlt : k ≤ s.size
    · go_wp2_with fail
      refine (ref_at s sub k _ (by unfold maxLen; omega) hsub hlt).mono ?_
      rintro e w' ⟨rfl, rfl⟩
      cases ho : Lib.occAt s.data.toList sub.data.toList k with
      | true =>
        go_wp2
        go_ret
        exact ⟨ret_i (Lib.index_first (by simpa using hlt) ho H.out).symm, rfl⟩
      | false =>
        have H2 : Hid (∀ j, j < k + 1 → Lib.occAt s.data.toList sub.data.toList j = false) := fun j hj => by
          by_cases e : j = k
          · subst e; exact ho
          · exact H.out j (by omega)
        clear ho
        go_wp2
        go_round
        case rel => exact ⟨k + 1, by omega, by go_num, H2⟩
        case measure => simp [intOf]; omega
    · go_wp2
      go_ret
      exact ⟨ret_i (Lib.index_none (fun j hj => H.out j (by have : s.data.toList.length = s.size := rfl; omega))).symm, rfl⟩
theorem ref_compare (a b : ByteArray) (w : World) (hs : a.size ≤ maxLen) (hsub : b.size ≤ maxLen) :
   Calls Try.prog 32 #[.string a, .string b] w fun e w' => e = .returned (.int .i64 (cmpL a.data.toList b.data.toList)) ∧ ∃ n, w' = w.drewN n := by
  unfold maxLen at hs hsub
  go_enter Try.func32, Try.ntmps32
  go_wp2
  go_loopw [5] (fun i wr => ∃ k : Nat, k ≤ a.size ∧ k ≤ b.size ∧ i = .int .i64 k ∧ Hid (cmpL a.data.toList b.data.toList = cmpL (a.data.toList.drop k) (b.data.toList.drop k)) ∧ Hid (∃ n, wr = w.drewN n)) (fun i _ => a.size - (intOf i).toNat)
  case atStart => exact ⟨0, by omega, by omega, rfl, rfl, 0, rfl⟩
  case round =>
    obtain ⟨k, hk, hk2, rfl, H, HW⟩ := hrel
    by_cases hlt : k < a.size
    · by_cases hlt2 : k < b.size
      · have st := Lib.hid (cmpL_step a.data.toList b.data.toList k hlt hlt2)
        have e1 : a.data.toList[k] = a[k] := rfl
        have e2 : b.data.toList[k] = b[k] := rfl
        rw [e1, e2] at st
        have HN : ∀ n, Hid (∃ j, wr.drewN n = w.drewN j) := fun n => by
          obtain ⟨j, hj⟩ := HW.out; subst hj; exact ⟨j + n, by simp [World.drewN, Nat.add_assoc]⟩
        by_cases c1 : a[k].toNat < b[k].toNat
        · go_wp2_with fail
          go_quiet (fail)
          go_wp2
          go_ret
          exact ⟨ret_i (by rw [H.out, st.out, if_pos c1]), (HN _).out⟩
        · by_cases c2 : a[k].toNat > b[k].toNat
          · go_wp2_with fail
            go_quiet (fail)
            go_wp2_with fail
            obtain ⟨w2, hw2⟩ : ∃ w2, wr.drewN nq = w2 := ⟨_, rfl⟩
            have hn2 := HN nq
            rw [hw2] at hn2 ⊢
            clear hw2 HN HW
            go_quiet (fail)
            go_wp2
            go_ret
            exact ⟨ret_i (by rw [H.out, st.out, if_neg c1, if_pos c2]), by obtain ⟨j, hj⟩ := hn2.out; subst hj; exact ⟨j + _, by simp [World.drewN, Nat.add_assoc]; rfl⟩⟩
          · have H2 : Hid (cmpL a.data.toList b.data.toList = cmpL (a.data.toList.drop (k + 1)) (b.data.toList.drop (k + 1))) := by
              show cmpL a.data.toList b.data.toList = _
              rw [H.out, st.out, if_neg c1, if_neg c2]
            clear st
            go_wp2_with fail
            go_quiet (fail)
            go_wp2_with fail
            obtain ⟨w2, hw2⟩ : ∃ w2, wr.drewN nq = w2 := ⟨_, rfl⟩
            have hn2 := HN nq
            rw [hw2] at hn2 ⊢
            clear hw2 HN HW
            go_quiet (fail)
            have hn3 : ∀ n, Hid (∃ j, w2.drewN n = w.drewN j) := fun n => by
              obtain ⟨j, hj⟩ := hn2.out; subst hj; exact ⟨j + n, by simp [World.drewN, Nat.add_assoc]⟩
            clear hn2
            go_wp2
            go_roundw
            case rel => exact ⟨k + 1, by omega, by omega, by go_num, H2, hn3 _⟩
            case measure => simp [intOf]; omega
      · go_wp2
        go_ret
        exact ⟨ret_i (by rw [H.out, cmpL_left a.data.toList b.data.toList k hlt (by have : b.data.toList.length = b.size := rfl; omega)]), HW.out⟩
    · by_cases hlt2 : k < b.size
      · go_wp2
        go_ret
        exact ⟨ret_i (by rw [H.out, cmpL_right a.data.toList b.data.toList k (by have : a.data.toList.length = a.size := rfl; omega) hlt2]), HW.out⟩
      · go_wp2
        go_ret
        exact ⟨ret_i (by rw [H.out, cmpL_end a.data.toList b.data.toList k (by have : a.data.toList.length = a.size := rfl; omega) (by have : b.data.toList.length = b.size := rfl; omega)]), HW.out⟩
theorem ref_repeat_ok (s : ByteArray) (n : Int) (w : World) (h : 1 ≤ n) (hm : s.size ≤ maxLen) (hs : 0 < s.size) (h2 : n ≤ 65536 / (s.size : Int)) :
   Calls Try.prog 16 #[.string s, .int .i64 n] w fun e w' => e = .returned (.tuple #[.string ⟨(Lib.repeatL s.data.toList n.toNat).toArray⟩, .string ⟨#[]⟩]) ∧ Below w.heap.size w w' := by
  unfold maxLen at hm
  have h3 : ((s.size : Int) == 0) = false := by rw [beq_eq_false_iff_ne]; omega
  have h4 := quo_le s.size hs
  have h5 : s.size * n.toNat ≤ 65536 := by
    have : (s.size : Int) * n ≤ 65536 := by
      rw [Int.mul_comm]; exact (Int.le_ediv_iff_mul_le (by omega)).1 h2
    have e : ((s.size * n.toNat : Nat) : Int) = (s.size : Int) * n := by rw [Int.natCast_mul, Int.toNat_of_nonneg (by omega)]
    omega
  obtain ⟨m, rfl⟩ := Int.eq_ofNat_of_zero_le (show 0 ≤ n by omega)
  rw [Int.toNat_natCast] at *
  go_enter Try.func16, Try.ntmps16
  go_wp2
  have hsz : (w.alloc (.cells #[] 5)).heap.size = w.heap.size + 1 := by simp
  obtain ⟨B, hB⟩ : ∃ B, w.heap.size = B := ⟨_, rfl⟩
  rw [hB]
  go_loopw [6, 7] (fun v i wr => ∃ k : Nat, k ≤ m ∧ i = .int .i64 k ∧ wr.ownsRow B 5 1 v (s.size * k) (Lib.strCells ⟨(Lib.repeatL s.data.toList k).toArray⟩) ∧ Below B w wr ∧ B ≤ wr.heap.size) (fun _ i _ => m - (intOf i).toNat)
  case atStart =>
    rw [← hB]
    exact ⟨0, by omega, rfl, World.ownsRow_lit w #[] 0 (Nat.le_refl _) (by unfold maxLen; omega) rfl, (Below.refl _ _).alloc (Nat.le_refl _) _, by simp⟩
  case round =>
    obtain ⟨k, hk, rfl, hown, hbe, hz⟩ := hrel
    obtain ⟨i0, hi, hz0, hz1, hz2⟩ := info_parts info_u8
    by_cases hlt : k < m
    · have hmul : s.size * (k + 1) ≤ 65536 := Nat.le_trans (Nat.mul_le_mul_left _ (by omega)) h5
      rw [Nat.mul_succ] at hmul
      go_wp2_with (at_builtin; refine Lib.wpList_append_own_string _ rfl _ _ 45 9 rfl B 5 i0 Try.underlying45 Try.underlying9 hi hz0 hz1 hz2 _ _ _ rfl hown s rfl (by unfold maxLen; omega) (by omega) hz ?_; intro v' w1 hown' hgrow _)
      refine ⟨⟨k + 1, by omega, by go_num, ?_, hbe.grown hgrow hz (fun j e => (hown.lt j e).1), Nat.le_trans hz hgrow.size⟩, by simp [intOf]; omega⟩
      rw [Nat.mul_succ, Lib.repeatL_add, Lib.repeatL_one, ← strCells_app, ← strCells_str]; exact hown'
    · obtain rfl : k = m := by omega
      obtain ⟨g, cap, rfl⟩ : ∃ g cap, u6 = .slice (some ⟨g, 0, none⟩) (s.size * k) cap := by
        rcases hown.2 with ⟨rfl, h0⟩ | ⟨g, cap, cur, rfl, _⟩
        · have := Nat.mul_pos hs (show 0 < k by omega); omega
        · exact ⟨g, cap, rfl⟩
      have kb := own_to_string Try.underlying45 Try.underlying5 Try.underlying9 hown
      go_wp2
      go_ret2
      exact ⟨rfl, hB ▸ hbe⟩
end Go.Proofs.Ytilmhlblilmcfaa
