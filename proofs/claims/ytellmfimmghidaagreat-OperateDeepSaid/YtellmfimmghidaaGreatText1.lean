import Derived.Test.YtellmfimmghidaaGreatBase
import Derived.Lib.ConvBytes
namespace Go.Proofs.YtellmfimmghidaaGreat
set_option linter.unusedSimpArgs false
open Go.RowKit
set_option linter.unusedVariables false
def placeI (n i : Int) : Int := if i < 0 then (if i + n < 0 then 0 else i + n) else (if i > n then n else i)
set_option maxHeartbeats 400000 in
theorem concat_ok (a b : ByteArray) (w : World) (h : a.size + b.size ≤ 65536) :
   Calls Tryz.prog 97 #[.string a, .string b] w fun e w' => e = .returned (.tuple #[.string (a ++ b), .string ⟨#[]⟩]) ∧ w = w' := by
  have h1 : a.size ≤ 65536 := by omega
  go_enter Tryz.func97, Tryz.ntmps97
  go_wp2
  go_ret2
  exact ⟨rfl, rfl⟩
set_option maxHeartbeats 400000 in
theorem concat_big (a b : ByteArray) (w : World) (h : 65536 < a.size + b.size) (ha : a.size ≤ maxLen) (hb : b.size ≤ maxLen) :
   Calls Tryz.prog 97 #[.string a, .string b] w fun e w' => e = .returned (.tuple #[.string ⟨#[]⟩, .string ⟨#[77, 101, 109, 111, 114, 121, 69, 114, 114, 111, 114]⟩]) ∧ w = w' := by
  unfold maxLen at ha hb
  go_enter Tryz.func97, Tryz.ntmps97
  go_wp2
  all_goals (go_ret2; exact ⟨rfl, rfl⟩)
set_option maxHeartbeats 400000 in
theorem at_ok (s : ByteArray) (i : Int) (w : World) (hs : s.size ≤ maxLen) (hi : 0 ≤ i) (hi' : i < s.size) :
   Calls Tryz.prog 71 #[.string s, .int .i64 i] w fun e w' => e = .returned (.tuple #[.string (s.extract i.toNat (i + 1).toNat), .string ⟨#[]⟩]) ∧ w = w' := by
  unfold maxLen at hs
  go_enter Tryz.func71, Tryz.ntmps71
  go_wp2
  go_ret2
  exact ⟨rfl, rfl⟩
set_option maxHeartbeats 400000 in
theorem at_neg (s : ByteArray) (i : Int) (w : World) (hs : s.size ≤ maxLen) (hi : i < 0) (hi' : 0 ≤ i + s.size) :
   Calls Tryz.prog 71 #[.string s, .int .i64 i] w fun e w' => e = .returned (.tuple #[.string (s.extract (i + s.size).toNat (i + s.size + 1).toNat), .string ⟨#[]⟩]) ∧ w = w' := by
  unfold maxLen at hs
  go_enter Tryz.func71, Tryz.ntmps71
  go_wp2
  go_ret2
  exact ⟨rfl, rfl⟩
set_option maxHeartbeats 400000 in
theorem at_out (s : ByteArray) (i : Int) (w : World) (hs : s.size ≤ maxLen) (hlo : -9223372036854775808 ≤ i) (hi : i + s.size < 0 ∨ s.size ≤ i) :
   Calls Tryz.prog 71 #[.string s, .int .i64 i] w fun e w' => e = .returned (.tuple #[.string ⟨#[]⟩, .string ⟨#[73, 110, 100, 101, 120, 69, 114, 114, 111, 114]⟩]) ∧ w = w' := by
  unfold maxLen at hs
  rcases hi with hi | hi
  · have h2 : i < 0 := by omega
    go_enter Tryz.func71, Tryz.ntmps71
    go_wp2
    go_ret2
    exact ⟨rfl, rfl⟩
  · have h2 : ¬ i < 0 := by omega
    go_enter Tryz.func71, Tryz.ntmps71
    go_wp2
    go_ret2
    exact ⟨rfl, rfl⟩
set_option maxHeartbeats 400000 in
theorem bounds_place (n i : Int) (b : Nat) (w : World) (hn : 0 ≤ n) (hn' : n ≤ 9223372036854775807) (hi : -9223372036854775808 ≤ i) (hi' : i ≤ 9223372036854775807) (hc : w.cell? ⟨b, 0, none⟩ = some (.int .i64 n)) :
   Calls Tryz.prog 131 #[.int .i64 i, .pointer (some ⟨b, 0, none⟩)] w fun e w' => e = .returned (.int .i64 (placeI n i)) ∧ w = w' := by
  have hz : i < 0 → i + n ≤ n := by omega
  go_enter Tryz.func131, Tryz.ntmps131
  go_wp2
  all_goals (go_ret; exact ⟨ret_i (by unfold placeI; (repeat' split) <;> omega), rfl⟩)
theorem placeI_le (n i : Int) (h : 0 ≤ n) : 0 ≤ placeI n i ∧ placeI n i ≤ n := by
  unfold placeI; (repeat' split) <;> omega
set_option maxHeartbeats 400000 in
theorem bounds_i (n f t : Int) (w : World) (hn : -9223372036854775808 ≤ n) (hn' : n ≤ 9223372036854775807) (hf : -9223372036854775808 ≤ f) (hf' : f ≤ 9223372036854775807) (ht : -9223372036854775808 ≤ t) (ht' : t ≤ 9223372036854775807) :
   Calls Tryz.prog 108 #[.int .i64 n, .int .i64 f, .int .i64 t] w fun e w' => e = .returned (.tuple #[.int .i64 (placeI (max n 0) f), .int .i64 (max (placeI (max n 0) f) (placeI (max n 0) t))]) ∧ Below w.heap.size w w' := by
  have key : ∀ m : Int, 0 ≤ m → m ≤ 9223372036854775807 → (0 < n ∧ m = n ∨ n < 0 ∧ m = 0 ∨ 0 = n ∧ m = n) → ∀ (w : World), Calls Tryz.prog 108 #[.int .i64 n, .int .i64 f, .int .i64 t] w fun e w' => e = .returned (.tuple #[.int .i64 (placeI m f), .int .i64 (max (placeI m f) (placeI m t))]) ∧ Below w.heap.size w w' := by
    intro m h0 h1 h2 w
    have p1 := placeI_le m f h0
    have p2 := placeI_le m t h0
    rcases h2 with ⟨h2, h3⟩ | ⟨h2, h3⟩ | ⟨rfl, h3⟩
    all_goals
      subst h3
      go_enter Tryz.func108, Tryz.ntmps108
      go_wp2_with fail
      refine (bounds_place _ f w.heap.size _ h0 h1 (by omega) (by omega) (by simp)).mono ?_
      rintro e w' ⟨rfl, rfl⟩
      go_wp2_with fail
      refine (bounds_place _ t w.heap.size _ h0 h1 (by omega) (by omega) (by simp)).mono ?_
      rintro e w' ⟨rfl, rfl⟩
      go_wp2
      all_goals (go_ret2; exact ⟨ret_ii rfl (by omega), (Below.refl _ _).alloc (Nat.le_refl _) _⟩)
  exact key (max n 0) (by omega) (by omega) (by omega) w
end Go.Proofs.YtellmfimmghidaaGreat
namespace Go.Proofs.YtellmfimmghidaaGreat
set_option linter.unusedSimpArgs false
open Go.RowKit
set_option linter.unusedVariables false
def cmpB (x y : Int) : Int := if x < y then -1 else if x > y then 1 else 0
def cmpL : List UInt8 → List UInt8 → Int
  | [], [] => 0
  | [], _ :: _ => -1
  | _ :: _, [] => 1
  | a :: x, b :: y => if a.toNat < b.toNat then -1 else if a.toNat > b.toNat then 1 else cmpL x y
set_option maxHeartbeats 400000 in
theorem cmp_byte (x y : Int) (w : World) :
   Calls Tryz.prog 138 #[.int .u8 x, .int .u8 y] w fun e w' => e = .returned (.int .i64 (cmpB x y)) ∧ w = w' := by
  go_enter Tryz.func138, Tryz.ntmps138
  go_wp2
  all_goals (go_ret; exact ⟨ret_i (by unfold cmpB; (repeat' split) <;> omega), rfl⟩)
theorem cmpL_three : ∀ x y : List UInt8, cmpL x y = 0 ∨ cmpL x y = 1 ∨ cmpL x y = -1
  | [], [] => .inl rfl
  | [], _ :: _ => .inr (.inr rfl)
  | _ :: _, [] => .inr (.inl rfl)
  | a :: x, b :: y => by
    rw [cmpL]; split
    · exact .inr (.inr rfl)
    · split
      · exact .inr (.inl rfl)
      · exact cmpL_three x y
theorem cmpL_step (x y : List UInt8) (k : Nat) (hk : k < x.length) (hk' : k < y.length) :
    cmpL (x.drop k) (y.drop k) = if x[k].toNat < y[k].toNat then -1 else if x[k].toNat > y[k].toNat then 1 else cmpL (x.drop (k + 1)) (y.drop (k + 1)) := by
  rw [List.drop_eq_getElem_cons hk, List.drop_eq_getElem_cons hk', cmpL]
theorem cmpL_left (x y : List UInt8) (k : Nat) (hk : k < x.length) (hk' : y.length ≤ k) : cmpL (x.drop k) (y.drop k) = 1 := by
  rw [List.drop_eq_getElem_cons hk, List.drop_of_length_le hk']; rfl
theorem cmpL_right (x y : List UInt8) (k : Nat) (hk : x.length ≤ k) (hk' : k < y.length) : cmpL (x.drop k) (y.drop k) = -1 := by
  rw [List.drop_of_length_le hk, List.drop_eq_getElem_cons hk']; rfl
theorem cmpL_end (x y : List UInt8) (k : Nat) (hk : x.length ≤ k) (hk' : y.length ≤ k) : cmpL (x.drop k) (y.drop k) = 0 := by
  rw [List.drop_of_length_le hk, List.drop_of_length_le hk']; rfl
set_option maxHeartbeats 400000 in
theorem cmp_slices (x y : List UInt8) (b1 b2 c1 c2 : Nat) (w : World) (hx : x.length ≤ 9223372036854775807) (hy : y.length ≤ 9223372036854775807)
   (h1 : ∀ j (h : j < x.length), w.cell? ⟨b1, j, none⟩ = some (.int .u8 x[j].toNat))
   (h2 : ∀ j (h : j < y.length), w.cell? ⟨b2, j, none⟩ = some (.int .u8 y[j].toNat)) :
   Calls Tryz.prog 117 #[.slice (some ⟨b1, 0, none⟩) x.length c1, .slice (some ⟨b2, 0, none⟩) y.length c2] w fun e w' => e = .returned (.int .i64 (cmpL x y)) ∧ w = w' := by
  go_enter Tryz.func117, Tryz.ntmps117
  go_wp2
  have H1 := Lib.hid h1; clear h1
  have H2 := Lib.hid h2; clear h2
  go_loop [11] (fun i => ∃ k : Nat, k ≤ x.length ∧ k ≤ y.length ∧ i = .int .i64 k ∧ Hid (cmpL x y = cmpL (x.drop k) (y.drop k))) (fun i => x.length - (intOf i).toNat)
  case atStart => exact ⟨0, by omega, by omega, rfl, rfl⟩
  case round =>
    obtain ⟨k, hk, hk2, rfl, H⟩ := hrel
    by_cases hlt : k < x.length
    · by_cases hlt2 : k < y.length
      · have g1 := H1.out k hlt
        have g2 := H2.out k hlt2
        have st := Lib.hid (cmpL_step x y k hlt hlt2)
        go_wp2_with fail
        refine (cmp_byte _ _ _).mono ?_
        rintro e w' ⟨rfl, rfl⟩
        by_cases c1 : x[k].toNat < y[k].toNat
        · rw [show cmpB (x[k].toNat : Int) (y[k].toNat : Int) = -1 from by unfold cmpB; rw [if_pos (by omega)]]
          go_wp2
          go_ret
          exact ⟨ret_i (by rw [H.out, st.out, if_pos c1]), rfl⟩
        · by_cases c2 : x[k].toNat > y[k].toNat
          · rw [show cmpB (x[k].toNat : Int) (y[k].toNat : Int) = 1 from by unfold cmpB; rw [if_neg (by omega), if_pos (by omega)]]
            go_wp2
            go_ret
            exact ⟨ret_i (by rw [H.out, st.out, if_neg c1, if_pos c2]), rfl⟩
          · rw [show cmpB (x[k].toNat : Int) (y[k].toNat : Int) = 0 from by unfold cmpB; rw [if_neg (by omega), if_neg (by omega)]]
            have H2 : Hid (cmpL x y = cmpL (x.drop (k + 1)) (y.drop (k + 1))) := by
              show cmpL x y = _
              rw [H.out, st.out, if_neg c1, if_neg c2]
            clear st
            go_wp2
            go_round
            case rel => exact ⟨k + 1, by omega, by omega, by go_num, H2⟩
            case measure => simp [intOf]; omega
      · have g1 := H1.out k hlt
        go_wp2
        go_ret
        exact ⟨ret_i (by rw [H.out, cmpL_left x y k hlt (by omega)]), rfl⟩
    · by_cases hlt2 : k < y.length
      · go_wp2
        go_ret
        exact ⟨ret_i (by rw [H.out, cmpL_right x y k (by omega) hlt2]), rfl⟩
      · go_wp2
        go_ret
        exact ⟨ret_i (by rw [H.out, cmpL_end x y k (by omega) (by omega)]), rfl⟩
theorem getD_lt (l : List UInt8) (j : Nat) (h : j < l.length) : l.getD j 0 = l[j] := by
  rw [List.getD_eq_getElem?_getD, List.getElem?_eq_getElem h]; rfl
theorem below_bytesWorld (w : World) (e : TypeId) (s : ByteArray) : Below w.heap.size w (Lib.bytesWorld w e s) :=
  ⟨rfl, rfl, rfl, by rw [Lib.bytesWorld_size]; omega, fun k h => Lib.bytesWorld_at_old w e s k h⟩
set_option maxHeartbeats 400000 in
theorem compare_i (a b : ByteArray) (w : World) (ha : a.size ≤ maxLen) (hb : b.size ≤ maxLen) :
   Calls Tryz.prog 90 #[.string a, .string b] w fun e w' => e = .returned (.int .i64 (cmpL a.data.toList b.data.toList)) ∧ Below w.heap.size w w' := by
  unfold maxLen at ha hb
  have k1 := fun (w : World) (s : ByteArray) => Lib.run_convert_string_bytes (P := Tryz.prog) w 9 47 5 s Tryz.underlying9 Tryz.underlying47 Tryz.underlying5
  go_enter Tryz.func90, Tryz.ntmps90
  go_wp2_with fail
  obtain ⟨w1, hw1⟩ : ∃ w1, w1 = Lib.bytesWorld w 5 a := ⟨_, rfl⟩
  have hz : w1.heap.size = w.heap.size + 1 := by rw [hw1, Lib.bytesWorld_size]
  have hb1 : Below w.heap.size w (Lib.bytesWorld w1 5 b) := by
    refine Below.trans ?_ ((below_bytesWorld w1 5 b).mono (by omega))
    rw [hw1]; exact below_bytesWorld _ _ _
  rw [← hw1]
  refine (cmp_slices a.data.toList b.data.toList w.heap.size w1.heap.size _ _ (Lib.bytesWorld w1 5 b) ha hb ?_ ?_).mono ?_
  · intro j hj
    rw [Lib.bytesWorld_old _ _ _ _ (by simp; omega), hw1]
    have := Lib.bytesWorld_cell w 5 a j hj
    rw [getD_lt _ _ hj] at this
    exact this
  · intro j hj
    have := Lib.bytesWorld_cell w1 5 b j hj
    rw [getD_lt _ _ hj] at this
    exact this
  rintro e w' ⟨rfl, hw'⟩
  subst hw'
  have hc : cmpL a.data.toList b.data.toList = 0 ∨ cmpL a.data.toList b.data.toList = 1 ∨ cmpL a.data.toList b.data.toList = -1 := cmpL_three _ _
  have hB : Below w.heap.size w (Lib.bytesWorld w1 5 b) := hb1
  clear hb1 hz hw1
  obtain ⟨r, hr⟩ : ∃ r, r = cmpL a.data.toList b.data.toList := ⟨_, rfl⟩
  rw [← hr] at hc ⊢
  have HR := Lib.hid hr; clear hr
  rcases hc with rfl | rfl | rfl
  all_goals
    go_wp2
    go_ret
    exact ⟨ret_i (by rw [← HR.out]), hB⟩
end Go.Proofs.YtellmfimmghidaaGreat
