import Derived.Test.YtijlebhoapdfnaaGreatBase
import Derived.Lib.ConvBytes
set_option maxHeartbeats 400000
namespace Go.Proofs.YtijlebhoapdfnaaGreat
set_option linter.unusedSimpArgs false
open Go.RowKit
set_option linter.unusedVariables false
end Go.Proofs.YtijlebhoapdfnaaGreat
namespace Go.Proofs.YtijlebhoapdfnaaGreat
set_option linter.unusedSimpArgs false
open Go.RowKit
set_option linter.unusedVariables false
def cmpB (x y : Int) : Int := if x < y then -1 else if x > y then 1 else 0
def cmpL : List UInt8 → List UInt8 → Int
 | [], [] => 0
 | [], _ :: _ => -1
 | _ :: _, [] => 1
 | a :: x, b :: y => if a.toNat < b.toNat then -1 else if a.toNat > b.toNat then 1 else cmpL x y
theorem cmp_byte (x y : Int) (w : World) :
  Calls Tryz.prog 222 #[.int .u8 x, .int .u8 y] w fun e w' => e = .returned (.int .i64 (cmpB x y)) ∧ w = w' := by
 go_enter Tryz.func222, Tryz.ntmps222
 go_wp2
 all_goals (go_ret; exact ⟨ret_i (by unfold cmpB; (repeat' split) <;> omega), rfl⟩)
theorem cmpL_three : ∀ x y : List UInt8, cmpL x y = 0 ∨ cmpL x y = 1 ∨ cmpL x y = -1
 | [], [] => .inl rfl
 | [], _ :: _ => .inr (.inr rfl)
 | _ :: _, [] => .inr (.inl rfl)
 | a :: x, b :: y => by
  rw [cmpL]; split
  ·
   exact .inr (.inr rfl)
  ·
   split
   ·
    exact .inr (.inl rfl)
   ·
    exact cmpL_three x y
theorem cmpL_step (x y : List UInt8) (k : Nat) (hk : k < x.length) (hk' : k < y.length) :
  cmpL (x.drop k) (y.drop k) = if x[k].toNat < y[k].toNat then -1 else if x[k].toNat > y[k].toNat then 1 else cmpL (x.drop (k + 1)) (y.drop (k + 1)) := by
 rw [List.drop_eq_getElem_cons hk, List.drop_eq_getElem_cons hk', cmpL]
theorem cmpL_left (x y : List UInt8) (k : Nat) (hk : k < x.length) (hk' : y.length ≤ k) : cmpL (x.drop k) (y.drop k) = 1 := by
 rw [List.drop_eq_getElem_cons hk, List.drop_of_length_le hk']; rfl
theorem cmpL_right (x y : List UInt8) (k : Nat) (hk : x.length ≤ k) (hk' : k < y.length) : cmpL (x.drop k) (y.drop k) = -1 := by
 rw [List.drop_of_length_le hk, List.drop_eq_getElem_cons hk']; rfl
theorem cmpL_end (x y : List UInt8) (k : Nat) (hk : x.length ≤ k) (hk' : y.length ≤ k) : cmpL (x.drop k) (y.drop k) = 0 := by
 rw [List.drop_of_length_le hk, List.drop_of_length_le hk']; rfl
theorem cmp_slices (x y : List UInt8) (b1 b2 c1 c2 : Nat) (w : World) (hx : x.length ≤ 9223372036854775807) (hy : y.length ≤ 9223372036854775807)
  (h1 : ∀ j (h : j < x.length), w.cell? ⟨b1, j, none⟩ = some (.int .u8 x[j].toNat))
  (h2 : ∀ j (h : j < y.length), w.cell? ⟨b2, j, none⟩ = some (.int .u8 y[j].toNat)) :
  Calls Tryz.prog 192 #[.slice (some ⟨b1, 0, none⟩) x.length c1, .slice (some ⟨b2, 0, none⟩) y.length c2] w fun e w' => e = .returned (.int .i64 (cmpL x y)) ∧ w = w' := by
 go_enter Tryz.func192, Tryz.ntmps192
 go_wp2
 have H1 := Lib.hid h1; clear h1
 have H2 := Lib.hid h2; clear h2
 go_loop [11] (fun i => ∃ k : Nat, k ≤ x.length ∧ k ≤ y.length ∧ i = .int .i64 k ∧ Hid (cmpL x y = cmpL (x.drop k) (y.drop k))) (fun i => x.length - (intOf i).toNat)
 case atStart => exact ⟨0, by omega, by omega, rfl, rfl⟩
 case round =>
  obtain ⟨k, hk, hk2, rfl, H⟩ := hrel
  by_cases hlt : k < x.length
  ·
   by_cases hlt2 : k < y.length
   ·
    have g1 := H1.out k hlt
    have g2 := H2.out k hlt2
    have st := Lib.hid (cmpL_step x y k hlt hlt2)
    go_wp2_with fail
    refine (cmp_byte _ _ _).mono ?_
    rintro e w' ⟨rfl, rfl⟩
    by_cases c1 : x[k].toNat < y[k].toNat
    ·
     rw [show cmpB (x[k].toNat : Int) (y[k].toNat : Int) = -1 from by unfold cmpB; rw [if_pos (by omega)]]
     go_wp2
     go_ret
     exact ⟨ret_i (by rw [H.out, st.out, if_pos c1]), rfl⟩
    ·
     by_cases c2 : x[k].toNat > y[k].toNat
     ·
      rw [show cmpB (x[k].toNat : Int) (y[k].toNat : Int) = 1 from by unfold cmpB; rw [if_neg (by omega), if_pos (by omega)]]
      go_wp2
      go_ret
      exact ⟨ret_i (by rw [H.out, st.out, if_neg c1, if_pos c2]), rfl⟩
     ·
      rw [show cmpB (x[k].toNat : Int) (y[k].toNat : Int) = 0 from by unfold cmpB; rw [if_neg (by omega), if_neg (by omega)]]
      have H2 : Hid (cmpL x y = cmpL (x.drop (k + 1)) (y.drop (k + 1))) := by
       show cmpL x y = _
       rw [H.out, st.out, if_neg c1, if_neg c2]
      clear st
      go_wp2
      go_round
      case rel => exact ⟨k + 1, by omega, by omega, by go_num, H2⟩
      case measure => simp [intOf]; omega
   ·
    have g1 := H1.out k hlt
    go_wp2
    go_ret
    exact ⟨ret_i (by rw [H.out, cmpL_left x y k hlt (by omega)]), rfl⟩
  ·
   by_cases hlt2 : k < y.length
   ·
    go_wp2
    go_ret
    exact ⟨ret_i (by rw [H.out, cmpL_right x y k (by omega) hlt2]), rfl⟩
   ·
    go_wp2
    go_ret
    exact ⟨ret_i (by rw [H.out, cmpL_end x y k (by omega) (by omega)]), rfl⟩
theorem getD_lt (l : List UInt8) (j : Nat) (h : j < l.length) : l.getD j 0 = l[j] := by
 rw [List.getD_eq_getElem?_getD, List.getElem?_eq_getElem h]; rfl
theorem below_bytesWorld (w : World) (e : TypeId) (s : ByteArray) : Below w.heap.size w (Lib.bytesWorld w e s) :=
 ⟨rfl, rfl, rfl, by rw [Lib.bytesWorld_size]; omega, fun k h => Lib.bytesWorld_at_old w e s k h⟩
theorem compare_i (a b : ByteArray) (w : World) (ha : a.size ≤ maxLen) (hb : b.size ≤ maxLen) :
  Calls Tryz.prog 162 #[.string a, .string b] w fun e w' => e = .returned (.int .i64 (cmpL a.data.toList b.data.toList)) ∧ Below w.heap.size w w' := by
 unfold maxLen at ha hb
 have k1 := fun (w : World) (s : ByteArray) => Lib.run_convert_string_bytes (P := Tryz.prog) w 9 140 5 s Tryz.underlying9 Tryz.underlying140 Tryz.underlying5
 go_enter Tryz.func162, Tryz.ntmps162
 go_wp2_with fail
 obtain ⟨w1, hw1⟩ : ∃ w1, w1 = Lib.bytesWorld w 5 a := ⟨_, rfl⟩
 have hz : w1.heap.size = w.heap.size + 1 := by rw [hw1, Lib.bytesWorld_size]
 have hb1 : Below w.heap.size w (Lib.bytesWorld w1 5 b) := by
  refine Below.trans ?_ ((below_bytesWorld w1 5 b).mono (by omega))
  rw [hw1]; exact below_bytesWorld _ _ _
 rw [← hw1]
 refine (cmp_slices a.data.toList b.data.toList w.heap.size w1.heap.size _ _ (Lib.bytesWorld w1 5 b) ha hb ?_ ?_).mono ?_
 ·
  intro j hj
  rw [Lib.bytesWorld_old _ _ _ _ (by simp; omega), hw1]
  have := Lib.bytesWorld_cell w 5 a j hj
  rw [getD_lt _ _ hj] at this
  exact this
 ·
  intro j hj
  have := Lib.bytesWorld_cell w1 5 b j hj
  rw [getD_lt _ _ hj] at this
  exact this
 rintro e w' ⟨rfl, hw'⟩
 subst hw'
 have hc : cmpL a.data.toList b.data.toList = 0 ∨ cmpL a.data.toList b.data.toList = 1 ∨ cmpL a.data.toList b.data.toList = -1 := cmpL_three _ _
 have hB : Below w.heap.size w (Lib.bytesWorld w1 5 b) := hb1
 clear hb1 hz hw1
 obtain ⟨r, hr⟩ : ∃ r, r = cmpL a.data.toList b.data.toList := ⟨_, rfl⟩
 rw [← hr] at hc ⊢
 have HR := Lib.hid hr; clear hr
 rcases hc with rfl | rfl | rfl
 all_goals
  go_wp2
  go_ret
  exact ⟨ret_i (by rw [← HR.out]), hB⟩
end Go.Proofs.YtijlebhoapdfnaaGreat
