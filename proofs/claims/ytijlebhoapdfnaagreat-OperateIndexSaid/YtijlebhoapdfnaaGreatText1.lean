import Derived.Test.YtijlebhoapdfnaaGreatBase
import Derived.Lib.ConvBytes
set_option maxHeartbeats 400000
namespace Go.Proofs.YtijlebhoapdfnaaGreat
set_option linter.unusedSimpArgs false
open Go.RowKit
set_option linter.unusedVariables false
def placeI (n i : Int) : Int := if i < 0 then (if i + n < 0 then 0 else i + n) else (if i > n then n else i)
theorem at_ok (s : ByteArray) (i : Int) (w : World) (hs : s.size ≤ maxLen) (hi : 0 ≤ i) (hi' : i < s.size) :
  Calls Tryz.prog 83 #[.string s, .int .i64 i] w fun e w' => e = .returned (.tuple #[.string (s.extract i.toNat (i + 1).toNat), .string ⟨#[]⟩]) ∧ w = w' := by
 unfold maxLen at hs
 go_enter Tryz.func83, Tryz.ntmps83
 go_wp2
 go_ret2
 exact ⟨rfl, rfl⟩
theorem at_neg (s : ByteArray) (i : Int) (w : World) (hs : s.size ≤ maxLen) (hi : i < 0) (hi' : 0 ≤ i + s.size) :
  Calls Tryz.prog 83 #[.string s, .int .i64 i] w fun e w' => e = .returned (.tuple #[.string (s.extract (i + s.size).toNat (i + s.size + 1).toNat), .string ⟨#[]⟩]) ∧ w = w' := by
 unfold maxLen at hs
 go_enter Tryz.func83, Tryz.ntmps83
 go_wp2
 go_ret2
 exact ⟨rfl, rfl⟩
theorem at_out (s : ByteArray) (i : Int) (w : World) (hs : s.size ≤ maxLen) (hlo : -9223372036854775808 ≤ i) (hi : i + s.size < 0 ∨ s.size ≤ i) :
  Calls Tryz.prog 83 #[.string s, .int .i64 i] w fun e w' => e = .returned (.tuple #[.string ⟨#[]⟩, .string ⟨#[73, 110, 100, 101, 120, 69, 114, 114, 111, 114]⟩]) ∧ w = w' := by
 unfold maxLen at hs
 rcases hi with hi | hi
 ·
  have h2 : i < 0 := by omega
  go_enter Tryz.func83, Tryz.ntmps83
  go_wp2
  go_ret2
  exact ⟨rfl, rfl⟩
 ·
  have h2 : ¬ i < 0 := by omega
  go_enter Tryz.func83, Tryz.ntmps83
  go_wp2
  go_ret2
  exact ⟨rfl, rfl⟩
theorem bounds_place (n i : Int) (b : Nat) (w : World) (hn : 0 ≤ n) (hn' : n ≤ 9223372036854775807) (hi : -9223372036854775808 ≤ i) (hi' : i ≤ 9223372036854775807) (hc : w.cell? ⟨b, 0, none⟩ = some (.int .i64 n)) :
  Calls Tryz.prog 155 #[.int .i64 i, .pointer (some ⟨b, 0, none⟩)] w fun e w' => e = .returned (.int .i64 (placeI n i)) ∧ w = w' := by
 have hz : i < 0 → i + n ≤ n := by omega
 go_enter Tryz.func155, Tryz.ntmps155
 go_wp2
 all_goals (go_ret; exact ⟨ret_i (by unfold placeI; (repeat' split) <;> omega), rfl⟩)
theorem placeI_le (n i : Int) (h : 0 ≤ n) : 0 ≤ placeI n i ∧ placeI n i ≤ n := by
 unfold placeI; (repeat' split) <;> omega
theorem bounds_i (n f t : Int) (w : World) (hn : -9223372036854775808 ≤ n) (hn' : n ≤ 9223372036854775807) (hf : -9223372036854775808 ≤ f) (hf' : f ≤ 9223372036854775807) (ht : -9223372036854775808 ≤ t) (ht' : t ≤ 9223372036854775807) :
  Calls Tryz.prog 99 #[.int .i64 n, .int .i64 f, .int .i64 t] w fun e w' => e = .returned (.tuple #[.int .i64 (placeI (max n 0) f), .int .i64 (max (placeI (max n 0) f) (placeI (max n 0) t))]) ∧ Below w.heap.size w w' := by
 have key : ∀ m : Int, 0 ≤ m → m ≤ 9223372036854775807 → (0 < n ∧ m = n ∨ n < 0 ∧ m = 0 ∨ 0 = n ∧ m = n) → ∀ (w : World), Calls Tryz.prog 99 #[.int .i64 n, .int .i64 f, .int .i64 t] w fun e w' => e = .returned (.tuple #[.int .i64 (placeI m f), .int .i64 (max (placeI m f) (placeI m t))]) ∧ Below w.heap.size w w' := by
  intro m h0 h1 h2 w
  have p1 := placeI_le m f h0
  have p2 := placeI_le m t h0
  rcases h2 with ⟨h2, h3⟩ | ⟨h2, h3⟩ | ⟨rfl, h3⟩
  all_goals
   subst h3
   go_enter Tryz.func99, Tryz.ntmps99
   go_wp2_with fail
   refine (bounds_place _ f w.heap.size _ h0 h1 (by omega) (by omega) (by simp)).mono ?_
   rintro e w' ⟨rfl, rfl⟩
   go_wp2_with fail
   refine (bounds_place _ t w.heap.size _ h0 h1 (by omega) (by omega) (by simp)).mono ?_
   rintro e w' ⟨rfl, rfl⟩
   go_wp2
   all_goals (go_ret2; exact ⟨ret_ii rfl (by omega), (Below.refl _ _).alloc (Nat.le_refl _) _⟩)
 exact key (max n 0) (by omega) (by omega) (by omega) w
end Go.Proofs.YtijlebhoapdfnaaGreat
namespace Go.Proofs.YtijlebhoapdfnaaGreat
set_option linter.unusedSimpArgs false
open Go.RowKit
set_option linter.unusedVariables false
end Go.Proofs.YtijlebhoapdfnaaGreat
