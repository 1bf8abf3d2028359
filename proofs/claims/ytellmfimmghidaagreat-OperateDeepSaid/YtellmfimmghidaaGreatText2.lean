import Derived.Test.YtellmfimmghidaaGreatText1
import Derived.Test.YtellmfimmghidaaGreatShelf
namespace Go.Proofs.YtellmfimmghidaaGreat
set_option linter.unusedSimpArgs false
open Go.RowKit
set_option linter.unusedVariables false
def lowI (s : ByteArray) (f : Int) : Int := placeI (max (s.size : Int) 0) f
def highI (s : ByteArray) (f t : Int) : Int := max (placeI (max (s.size : Int) 0) f) (placeI (max (s.size : Int) 0) t)
theorem lowI_le (s : ByteArray) (f t : Int) : 0 ≤ lowI s f ∧ lowI s f ≤ highI s f t ∧ highI s f t ≤ s.size := by
  have h1 := placeI_le (max (s.size : Int) 0) f (by omega)
  have h2 := placeI_le (max (s.size : Int) 0) t (by omega)
  unfold lowI highI; omega
set_option maxHeartbeats 400000 in
theorem slice_i (s : ByteArray) (f t : Int) (w : World) (hs : s.size ≤ maxLen) (hf : -9223372036854775808 ≤ f) (hf' : f ≤ 9223372036854775807) (ht : -9223372036854775808 ≤ t) (ht' : t ≤ 9223372036854775807) :
   Calls Tryz.prog 107 #[.string s, .int .i64 f, .int .i64 t] w fun e w' => e = .returned (.string (s.extract (lowI s f).toNat (highI s f t).toNat)) ∧ Below w.heap.size w w' := by
  unfold maxLen at hs
  have hb := lowI_le s f t
  go_enter Tryz.func107, Tryz.ntmps107
  go_wp2_with fail
  refine (bounds_i s.size f t _ (by omega) (by omega) hf hf' ht ht').mono ?_
  rintro e w' ⟨rfl, hw⟩
  change Below _ _ _ at hw
  rw [show placeI (max (s.size : Int) 0) f = lowI s f from rfl, show max (lowI s f) (placeI (max (s.size : Int) 0) t) = highI s f t from rfl]
  go_wp2
  go_ret
  exact ⟨rfl, hw⟩
set_option maxHeartbeats 400000 in
theorem find_i (s sub : ByteArray) (m : Int) (w : World) (hs : s.size < 4294967281) (hm : w.cell? ⟨0, 0, none⟩ = some (.int .i64 m)) :
   Calls Tryz.prog 87 #[.string s, .string sub] w fun e w' => e = .returned (.int .i64 (Lib.index s.data.toList sub.data.toList)) ∧ w = w' := by
  go_enter Tryz.func87, Tryz.ntmps87
  go_wp2_with fail
  refine (Tryz.strings_Index s sub m _ hs hm).mono ?_
  rintro e w' ⟨rfl, rfl⟩
  have h1 := Lib.index_ge s.data.toList sub.data.toList
  have h2 : Lib.index s.data.toList sub.data.toList ≤ 9223372036854775807 := by have := Lib.index_le s.data.toList sub.data.toList; simp at this; omega
  go_wp2
  go_ret
  exact ⟨rfl, rfl⟩
set_option maxHeartbeats 400000 in
theorem repeat_none (s : ByteArray) (n : Int) (w : World) (h : n < 1 ∨ s.size = 0) :
   Calls Tryz.prog 99 #[.string s, .int .i64 n] w fun e w' => e = .returned (.tuple #[.string ⟨#[]⟩, .string ⟨#[]⟩]) ∧ w = w' := by
  by_cases h1 : n < 1
  · go_enter Tryz.func99, Tryz.ntmps99
    go_wp2
    go_ret2
    exact ⟨rfl, rfl⟩
  · have h2 := isE_of_zero s (h.resolve_left h1)
    go_enter Tryz.func99, Tryz.ntmps99
    go_wp2
    go_ret2
    exact ⟨rfl, rfl⟩
theorem quo_le (n : Nat) (h : 0 < n) : 0 ≤ 65536 / (n : Int) ∧ 65536 / (n : Int) ≤ 65536 := ⟨Int.ediv_nonneg (by omega) (by omega), Int.ediv_le_self _ (by omega)⟩
set_option maxHeartbeats 400000 in
theorem repeat_big (s : ByteArray) (n : Int) (w : World) (h : 1 ≤ n) (hm : s.size ≤ maxLen) (hs : 0 < s.size) (h2 : 65536 / (s.size : Int) < n) :
   Calls Tryz.prog 99 #[.string s, .int .i64 n] w fun e w' => e = .returned (.tuple #[.string ⟨#[]⟩, .string ⟨#[77, 101, 109, 111, 114, 121, 69, 114, 114, 111, 114]⟩]) ∧ w = w' := by
  unfold maxLen at hm
  have h3 := isE_of_pos s hs
  have h4 := quo_le s.size hs
  go_enter Tryz.func99, Tryz.ntmps99
  go_wp2
  go_ret2
  exact ⟨rfl, rfl⟩
set_option maxHeartbeats 400000 in
theorem repeat_ok (s : ByteArray) (n : Int) (w : World) (h : 1 ≤ n) (hm : s.size ≤ maxLen) (hs : 0 < s.size) (h2 : n ≤ 65536 / (s.size : Int)) :
   Calls Tryz.prog 99 #[.string s, .int .i64 n] w fun e w' => e = .returned (.tuple #[.string ⟨(Lib.repeatL s.data.toList n.toNat).toArray⟩, .string ⟨#[]⟩]) ∧ Below w.heap.size w w' := by
  unfold maxLen at hm
  have h3 := isE_of_pos s hs
  have h4 := quo_le s.size hs
  have h5 : s.size * n.toNat ≤ 65536 := by
    have : (s.size : Int) * n ≤ 65536 := by
      rw [Int.mul_comm]; exact (Int.le_ediv_iff_mul_le (by omega)).1 h2
    have e : ((s.size * n.toNat : Nat) : Int) = (s.size : Int) * n := by rw [Int.natCast_mul, Int.toNat_of_nonneg (by omega)]
    omega
  obtain ⟨k, rfl⟩ := Int.eq_ofNat_of_zero_le (show 0 ≤ n by omega)
  rw [Int.toNat_natCast] at *
  go_enter Tryz.func99, Tryz.ntmps99
  go_wp2_with fail
  refine (Tryz.strings_Repeat s k _ (by omega) (by omega)).mono ?_
  rintro e w' ⟨rfl, hw⟩
  change Below _ _ _ at hw
  go_wp2
  go_ret2
  exact ⟨rfl, hw⟩
end Go.Proofs.YtellmfimmghidaaGreat
