import Derived.Lib.AppendStr
import Derived.Laws.OwnMore
import Derived.Lib.Repeat
import Derived.Lib.Strings
import Derived.Test.YtijlebhoapdfnaaGreatOprN
import Derived.Test.YtijlebhoapdfnaaGreatText1
import Derived.Lib.Join
namespace Go.Proofs.YtijlebhoapdfnaaGreat
set_option linter.unusedSimpArgs false
open Go.RowKit
set_option linter.unusedVariables false
end Go.Proofs.YtijlebhoapdfnaaGreat
namespace Go.Proofs.YtijlebhoapdfnaaGreat
set_option linter.unusedSimpArgs false
open Go.RowKit
set_option linter.unusedVariables false
set_option maxHeartbeats 400000
end Go.Proofs.YtijlebhoapdfnaaGreat
namespace Go.Proofs.YtijlebhoapdfnaaGreat
set_option linter.unusedSimpArgs false
open Go.RowKit
set_option linter.unusedVariables false
set_option maxHeartbeats 400000
theorem extract_list (s : ByteArray) (i j : Nat) : (s.extract i j).data.toList = (s.data.toList.drop i).take (j - i) := by
 rw [Lib.extract_data]
theorem occ_extract (s sub : ByteArray) (i : Nat) (h : i + sub.size ≤ s.size) : ((s.extract i (i + sub.size)).toList == sub.toList) = Lib.occAt s.data.toList sub.data.toList i := by
 have e3 : sub.data.toList.length = sub.size := rfl
 rw [Lib.occAt_iff_take _ _ _ (by rw [e3]; exact h), ByteArray.toList_eq, ByteArray.toList_eq, extract_list, e3, Nat.add_sub_cancel_left]
theorem rtx_at (s sub : ByteArray) (i : Nat) (w : World) (hs : s.size ≤ maxLen) (hsub : sub.size ≤ maxLen) (hi : i ≤ s.size) :
  Calls Tryz.prog 194 #[.string s, .string sub, .int .i64 i] w fun e w' => e = .returned (.bool (Lib.occAt s.data.toList sub.data.toList i)) ∧ w = w' := by
 unfold maxLen at hs hsub
 by_cases hr : i + sub.size ≤ s.size
 ·
  go_enter Tryz.func194, Tryz.ntmps194
  go_wp2
  go_ret
  exact ⟨ret_b (occ_extract s sub i hr), rfl⟩
 ·
  go_enter Tryz.func194, Tryz.ntmps194
  go_wp2
  go_ret
  refine ⟨ret_b ?_, rfl⟩
  cases h : Lib.occAt s.data.toList sub.data.toList i with
  | false => rfl
  | true =>
   have e1 : s.data.toList.length = s.size := rfl
   have e2 : sub.data.toList.length = sub.size := rfl
   rcases Lib.occAt_room h with h1 | h1
   ·
    omega
   ·
    rw [h1] at e2; simp at e2; omega
theorem ref_find (s sub : ByteArray) (w : World) (hs : s.size ≤ 9223372036854775806) (hsub : sub.size ≤ maxLen) :
  Calls Tryz.prog 163 #[.string s, .string sub] w fun e w' => e = .returned (.int .i64 (Lib.index s.data.toList sub.data.toList)) ∧ w = w' := by
 go_enter Tryz.func163, Tryz.ntmps163
 go_wp2
 go_loop [5] (fun i => ∃ k : Nat, k ≤ s.size + 1 ∧ i = .int .i64 k ∧ Hid (∀ j, j < k → Lib.occAt s.data.toList sub.data.toList j = false)) (fun i => s.size + 1 - (intOf i).toNat)
 case atStart => exact ⟨0, by omega, rfl, fun j hj => absurd hj (Nat.not_lt_zero _)⟩
 case round =>
  obtain ⟨k, hk, rfl, H⟩ := hrel
  by_cases hlt : k ≤ s.size
  ·
   go_wp2_with fail
   refine (rtx_at s sub k _ (by unfold maxLen; omega) hsub hlt).mono ?_
   rintro e w' ⟨rfl, rfl⟩
   cases ho : Lib.occAt s.data.toList sub.data.toList k with
   | true =>
    go_wp2
    go_ret
    exact ⟨ret_i (Lib.index_first (by simpa using hlt) ho H.out).symm, rfl⟩
   | false =>
    have H2 : Hid (∀ j, j < k + 1 → Lib.occAt s.data.toList sub.data.toList j = false) := fun j hj => by
     by_cases e : j = k
     ·
      subst e; exact ho
     ·
      exact H.out j (by omega)
    clear ho
    go_wp2
    go_round
    case rel => exact ⟨k + 1, by omega, by go_num, H2⟩
    case measure => simp [intOf]; omega
  ·
   go_wp2
   go_ret
   exact ⟨ret_i (Lib.index_none (fun j hj => H.out j (by have : s.data.toList.length = s.size := rfl; omega))).symm, rfl⟩
theorem ref_compare (a b : ByteArray) (w : World) (hs : a.size ≤ maxLen) (hsub : b.size ≤ maxLen) :
  Calls Tryz.prog 120 #[.string a, .string b] w fun e w' => e = .returned (.int .i64 (cmpL a.data.toList b.data.toList)) ∧ ∃ n, w' = w.drewN n := by
 unfold maxLen at hs hsub
 go_enter Tryz.func120, Tryz.ntmps120
 go_wp2
 go_loopw [5] (fun i wr => ∃ k : Nat, k ≤ a.size ∧ k ≤ b.size ∧ i = .int .i64 k ∧ Hid (cmpL a.data.toList b.data.toList = cmpL (a.data.toList.drop k) (b.data.toList.drop k)) ∧ Hid (∃ n, wr = w.drewN n)) (fun i _ => a.size - (intOf i).toNat)
 case atStart => exact ⟨0, by omega, by omega, rfl, rfl, 0, rfl⟩
 case round =>
  obtain ⟨k, hk, hk2, rfl, H, HW⟩ := hrel
  by_cases hlt : k < a.size
  ·
   by_cases hlt2 : k < b.size
   ·
    have st := Lib.hid (cmpL_step a.data.toList b.data.toList k hlt hlt2)
    have e1 : a.data.toList[k] = a[k] := rfl
    have e2 : b.data.toList[k] = b[k] := rfl
    rw [e1, e2] at st
    have HN : ∀ n, Hid (∃ j, wr.drewN n = w.drewN j) := fun n => by
     obtain ⟨j, hj⟩ := HW.out; subst hj; exact ⟨j + n, by simp [World.drewN, Nat.add_assoc]⟩
    by_cases c1 : a[k].toNat < b[k].toNat
    ·
     go_wp2_with fail
     go_quiet (fail)
     go_wp2
     go_ret
     exact ⟨ret_i (by rw [H.out, st.out, if_pos c1]), (HN _).out⟩
    ·
     by_cases c2 : a[k].toNat > b[k].toNat
     ·
      go_wp2_with fail
      go_quiet (fail)
      go_wp2_with fail
      obtain ⟨w2, hw2⟩ : ∃ w2, wr.drewN nq = w2 := ⟨_, rfl⟩
      have hn2 := HN nq
      rw [hw2] at hn2 ⊢
      clear hw2 HN HW
      go_quiet (fail)
      go_wp2
      go_ret
      exact ⟨ret_i (by rw [H.out, st.out, if_neg c1, if_pos c2]), by obtain ⟨j, hj⟩ := hn2.out; subst hj; exact ⟨j + _, by simp [World.drewN, Nat.add_assoc]; rfl⟩⟩
     ·
      have H2 : Hid (cmpL a.data.toList b.data.toList = cmpL (a.data.toList.drop (k + 1)) (b.data.toList.drop (k + 1))) := by
       show cmpL a.data.toList b.data.toList = _
       rw [H.out, st.out, if_neg c1, if_neg c2]
      clear st
      go_wp2_with fail
      go_quiet (fail)
      go_wp2_with fail
      obtain ⟨w2, hw2⟩ : ∃ w2, wr.drewN nq = w2 := ⟨_, rfl⟩
      have hn2 := HN nq
      rw [hw2] at hn2 ⊢
      clear hw2 HN HW
      go_quiet (fail)
      have hn3 : ∀ n, Hid (∃ j, w2.drewN n = w.drewN j) := fun n => by
       obtain ⟨j, hj⟩ := hn2.out; subst hj; exact ⟨j + n, by simp [World.drewN, Nat.add_assoc]⟩
      clear hn2
      go_wp2
      go_roundw
      case rel => exact ⟨k + 1, by omega, by omega, by go_num, H2, hn3 _⟩
      case measure => simp [intOf]; omega
   ·
    go_wp2
    go_ret
    exact ⟨ret_i (by rw [H.out, cmpL_left a.data.toList b.data.toList k hlt (by have : b.data.toList.length = b.size := rfl; omega)]), HW.out⟩
  ·
   by_cases hlt2 : k < b.size
   ·
    go_wp2
    go_ret
    exact ⟨ret_i (by rw [H.out, cmpL_right a.data.toList b.data.toList k (by have : a.data.toList.length = a.size := rfl; omega) hlt2]), HW.out⟩
   ·
    go_wp2
    go_ret
    exact ⟨ret_i (by rw [H.out, cmpL_end a.data.toList b.data.toList k (by have : a.data.toList.length = a.size := rfl; omega) (by have : b.data.toList.length = b.size := rfl; omega)]), HW.out⟩
end Go.Proofs.YtijlebhoapdfnaaGreat
