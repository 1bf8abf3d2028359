import Derived.Test.YtilmhlblilmcfaaText6
import Derived.Lib.AppendStr
import Derived.Laws.OwnMore
import Derived.Lib.Repeat
namespace Go.Proofs.Ytilmhlblilmcfaa
open Go.RowKit
set_option linter.unusedVariables false
set_option maxHeartbeats 400000
theorem ref_concat_ok (a b : ByteArray) (w : World) (h : a.size + b.size ≤ 65536) :
   Calls Try.prog 14 #[.string a, .string b] w fun e w' => e = .returned (.tuple #[.string (a ++ b), .string ⟨#[]⟩]) ∧ w = w' := by
  have h1 : a.size ≤ 65536 := by omega
  go_enter Try.func14, Try.ntmps14
  go_wp2
  go_ret2
  exact ⟨rfl, rfl⟩
theorem ref_concat_big (a b : ByteArray) (w : World) (h : 65536 < a.size + b.size) (ha : a.size ≤ maxLen) (hb : b.size ≤ maxLen) :
   Calls Try.prog 14 #[.string a, .string b] w fun e w' => e = .returned (.tuple #[.string ⟨#[]⟩, .string ⟨#[77, 101, 109, 111, 114, 121, 69, 114, 114, 111, 114]⟩]) ∧ w = w' := by
  unfold maxLen at ha hb
  go_enter Try.func14, Try.ntmps14
  go_wp2
  all_goals (go_ret2; exact ⟨rfl, rfl⟩)
theorem ref_at_ok (s : ByteArray) (i : Int) (w : World) (hs : s.size ≤ maxLen) (hi : 0 ≤ i) (hi' : i < s.size) :
   Calls Try.prog 19 #[.string s, .int .i64 i] w fun e w' => e = .returned (.tuple #[.string (s.extract i.toNat (i + 1).toNat), .string ⟨#[]⟩]) ∧ w = w' := by
  unfold maxLen at hs
  go_enter Try.func19, Try.ntmps19
  go_wp2
  go_ret2
  exact ⟨rfl, rfl⟩
theorem ref_at_neg (s : ByteArray) (i : Int) (w : World) (hs : s.size ≤ maxLen) (hi : i < 0) (hi' : 0 ≤ i + s.size) :
   Calls Try.prog 19 #[.string s, .int .i64 i] w fun e w' => e = .returned (.tuple #[.string (s.extract (i + s.size).toNat (i + s.size + 1).toNat), .string ⟨#[]⟩]) ∧ w = w' := by
  unfold maxLen at hs
  go_enter Try.func19, Try.ntmps19
  go_wp2
  go_ret2
  exact ⟨rfl, rfl⟩
theorem ref_at_out (s : ByteArray) (i : Int) (w : World) (hs : s.size ≤ maxLen) (hlo : -9223372036854775808 ≤ i) (hi : i + s.size < 0 ∨ s.size ≤ i) :
   Calls Try.prog 19 #[.string s, .int .i64 i] w fun e w' => e = .returned (.tuple #[.string ⟨#[]⟩, .string ⟨#[73, 110, 100, 101, 120, 69, 114, 114, 111, 114]⟩]) ∧ w = w' := by
  unfold maxLen at hs
  rcases hi with hi | hi
  · have h2 : i < 0 := by omega
    go_enter Try.func19, Try.ntmps19
    go_wp2
    go_ret2
    exact ⟨rfl, rfl⟩
  · have h2 : ¬ i < 0 := by omega
    go_enter Try.func19, Try.ntmps19
    go_wp2
    go_ret2
    exact ⟨rfl, rfl⟩
theorem ref_place (n i : Int) (w : World) (hn : 0 ≤ n) (hn' : n ≤ 9223372036854775807) (hi : -9223372036854775808 ≤ i) (hi' : i ≤ 9223372036854775807) :
   Calls Try.prog 35 #[.int .i64 n, .int .i64 i] w fun e w' => e = .returned (.int .i64 (placeI n i)) ∧ w = w' := by
  have hz : i < 0 → i + n ≤ n := by omega
  go_enter Try.func35, Try.ntmps35
  go_wp2
  all_goals (go_ret; exact ⟨ret_i (by unfold placeI; (repeat' split) <;> omega), rfl⟩)
theorem ref_bounds (n f t : Int) (w : World) (hn : -9223372036854775808 ≤ n) (hn' : n ≤ 9223372036854775807) (hf : -9223372036854775808 ≤ f) (hf' : f ≤ 9223372036854775807) (ht : -9223372036854775808 ≤ t) (ht' : t ≤ 9223372036854775807) :
   Calls Try.prog 21 #[.int .i64 n, .int .i64 f, .int .i64 t] w fun e w' => e = .returned (.tuple #[.int .i64 (placeI (max n 0) f), .int .i64 (max (placeI (max n 0) f) (placeI (max n 0) t))]) ∧ w = w' := by
  have key : ∀ m : Int, 0 ≤ m → m ≤ 9223372036854775807 → (0 ≤ n ∧ m = n ∨ n < 0 ∧ m = 0) → ∀ (w : World), Calls Try.prog 21 #[.int .i64 n, .int .i64 f, .int .i64 t] w fun e w' => e = .returned (.tuple #[.int .i64 (placeI m f), .int .i64 (max (placeI m f) (placeI m t))]) ∧ w = w' := by
    intro m h0 h1 h2 w
    have p1 := placeI_le m f h0
    have p2 := placeI_le m t h0
    rcases h2 with ⟨h2, h3⟩ | ⟨h2, h3⟩
    all_goals
      subst h3
      go_enter Try.func21, Try.ntmps21
      go_wp2_with fail
      refine (ref_place _ f _ h0 h1 (by omega) (by omega)).mono ?_
      rintro e w' ⟨rfl, rfl⟩
      go_wp2_with fail
      refine (ref_place _ t _ h0 h1 (by omega) (by omega)).mono ?_
      rintro e w' ⟨rfl, rfl⟩
      go_wp2
      all_goals (go_ret2; exact ⟨ret_ii rfl (by omega), rfl⟩)
  exact key (max n 0) (by omega) (by omega) (by omega) w
theorem ref_slice (s : ByteArray) (f t : Int) (w : World) (hs : s.size ≤ maxLen) (hf : -9223372036854775808 ≤ f) (hf' : f ≤ 9223372036854775807) (ht : -9223372036854775808 ≤ t) (ht' : t ≤ 9223372036854775807) :
   Calls Try.prog 23 #[.string s, .int .i64 f, .int .i64 t] w fun e w' => e = .returned (.string (s.extract (lowI s f).toNat (highI s f t).toNat)) ∧ w = w' := by
  unfold maxLen at hs
  have hb := lowI_le s f t
  go_enter Try.func23, Try.ntmps23
  go_wp2_with fail
  refine (ref_bounds s.size f t _ (by omega) (by omega) hf hf' ht ht').mono ?_
  rintro e w' ⟨rfl, rfl⟩
  rw [show placeI (max (s.size : Int) 0) f = lowI s f from rfl, show max (lowI s f) (placeI (max (s.size : Int) 0) t) = highI s f t from rfl]
  go_wp2
  go_ret
  exact ⟨rfl, rfl⟩
theorem ref_repeat_none (s : ByteArray) (n : Int) (w : World) (hm : s.size ≤ maxLen) (h : n < 1 ∨ s.size = 0) :
   Calls Try.prog 16 #[.string s, .int .i64 n] w fun e w' => e = .returned (.tuple #[.string ⟨#[]⟩, .string ⟨#[]⟩]) ∧ w = w' := by
  unfold maxLen at hm
  by_cases h1 : n < 1
  · go_enter Try.func16, Try.ntmps16
    go_wp2
    go_ret2
    exact ⟨rfl, rfl⟩
  · have h2 := h.resolve_left h1
    have h3 : ((s.size : Int) == 0) = true := by rw [beq_iff_eq]; omega
    clear h h2
    go_enter Try.func16, Try.ntmps16
    go_wp2
    go_ret2
    exact ⟨rfl, rfl⟩
theorem ref_repeat_big (s : ByteArray) (n : Int) (w : World) (h : 1 ≤ n) (hm : s.size ≤ maxLen) (hs : 0 < s.size) (h2 : 65536 / (s.size : Int) < n) :
   Calls Try.prog 16 #[.string s, .int .i64 n] w fun e w' => e = .returned (.tuple #[.string ⟨#[]⟩, .string ⟨#[77, 101, 109, 111, 114, 121, 69, 114, 114, 111, 114]⟩]) ∧ w = w' := by
  unfold maxLen at hm
  have h3 : ((s.size : Int) == 0) = false := by rw [beq_eq_false_iff_ne]; omega
  have h4 := quo_le s.size hs
  go_enter Try.func16, Try.ntmps16
  go_wp2
  go_ret2
  exact ⟨rfl, rfl⟩
end Go.Proofs.Ytilmhlblilmcfaa
