import Derived.Test.YtellmfimmghidaaGreatBase
import Derived.Lib.ConvBytes
namespace Go.Proofs.YtellmfimmghidaaGreat
set_option linter.unusedSimpArgs false
open Go.RowKit
set_option linter.unusedVariables false
def placeI (n i : Int) : Int := if i < 0 then (if i + n < 0 then 0 else i + n) else (if i > n then n else i)
set_option maxHeartbeats 400000 in
theorem concat_ok (a b : ByteArray) (w : World) (h : a.size + b.size ≤ 65536) :
   Calls Tryz.prog 97 #[.string a, .string b] w fun e w' => e = .returned (.tuple #[.string (a ++ b), .string ⟨#[]⟩]) ∧ w = w' := by
  have h1 : a.size ≤ 65536 := by omega
  go_enter Tryz.func97, Tryz.ntmps97
  go_wp2
  go_ret2
  exact ⟨rfl, rfl⟩
set_option maxHeartbeats 400000 in
theorem bounds_place (n i : Int) (b : Nat) (w : World) (hn : 0 ≤ n) (hn' : n ≤ 9223372036854775807) (hi : -9223372036854775808 ≤ i) (hi' : i ≤ 9223372036854775807) (hc : w.cell? ⟨b, 0, none⟩ = some (.int .i64 n)) :
   Calls Tryz.prog 131 #[.int .i64 i, .pointer (some ⟨b, 0, none⟩)] w fun e w' => e = .returned (.int .i64 (placeI n i)) ∧ w = w' := by
  have hz : i < 0 → i + n ≤ n := by omega
  go_enter Tryz.func131, Tryz.ntmps131
  go_wp2
  all_goals (go_ret; exact ⟨ret_i (by unfold placeI; (repeat' split) <;> omega), rfl⟩)
theorem placeI_le (n i : Int) (h : 0 ≤ n) : 0 ≤ placeI n i ∧ placeI n i ≤ n := by
  unfold placeI; (repeat' split) <;> omega
set_option maxHeartbeats 400000 in
theorem bounds_i (n f t : Int) (w : World) (hn : -9223372036854775808 ≤ n) (hn' : n ≤ 9223372036854775807) (hf : -9223372036854775808 ≤ f) (hf' : f ≤ 9223372036854775807) (ht : -9223372036854775808 ≤ t) (ht' : t ≤ 9223372036854775807) :
   Calls Tryz.prog 108 #[.int .i64 n, .int .i64 f, .int .i64 t] w fun e w' => e = .returned (.tuple #[.int .i64 (placeI (max n 0) f), .int .i64 (max (placeI (max n 0) f) (placeI (max n 0) t))]) ∧ Below w.heap.size w w' := by
  have key : ∀ m : Int, 0 ≤ m → m ≤ 9223372036854775807 → (0 < n ∧ m = n ∨ n < 0 ∧ m = 0 ∨ 0 = n ∧ m = n) → ∀ (w : World), Calls Tryz.prog 108 #[.int .i64 n, .int .i64 f, .int .i64 t] w fun e w' => e = .returned (.tuple #[.int .i64 (placeI m f), .int .i64 (max (placeI m f) (placeI m t))]) ∧ Below w.heap.size w w' := by
    intro m h0 h1 h2 w
    have p1 := placeI_le m f h0
    have p2 := placeI_le m t h0
    rcases h2 with ⟨h2, h3⟩ | ⟨h2, h3⟩ | ⟨rfl, h3⟩
    all_goals
      subst h3
      go_enter Tryz.func108, Tryz.ntmps108
      go_wp2_with fail
      refine (bounds_place _ f w.heap.size _ h0 h1 (by omega) (by omega) (by simp)).mono ?_
      rintro e w' ⟨rfl, rfl⟩
      go_wp2_with fail
      refine (bounds_place _ t w.heap.size _ h0 h1 (by omega) (by omega) (by simp)).mono ?_
      rintro e w' ⟨rfl, rfl⟩
      go_wp2
      all_goals (go_ret2; exact ⟨ret_ii rfl (by omega), (Below.refl _ _).alloc (Nat.le_refl _) _⟩)
  exact key (max n 0) (by omega) (by omega) (by omega) w
end Go.Proofs.YtellmfimmghidaaGreat
namespace Go.Proofs.YtellmfimmghidaaGreat
set_option linter.unusedSimpArgs false
open Go.RowKit
set_option linter.unusedVariables false
end Go.Proofs.YtellmfimmghidaaGreat
