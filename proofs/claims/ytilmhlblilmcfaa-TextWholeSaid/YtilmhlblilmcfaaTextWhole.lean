/-
  TextWhole: for every str and place the law returns true: a slice up to a place, and one from there on, are the whole. No condition.
-/
import Derived.Test.YtilmhlblilmcfaaTextEnv
namespace Go.Proofs.Ytilmhlblilmcfaa.textWhole
open Go.ChangeShapes Go.WideShapes Go.ChangeAt Go.RowKit
open Go.ChangeMaps (open_string)
set_option linter.unusedVariables false
theorem placeI_zero (n : Int) (h : 0 ≤ n) : placeI n 0 = 0 := by unfold placeI; rw [if_neg (by omega), if_neg (by omega)]
theorem placeI_full (n : Int) (h : 0 ≤ n) : placeI n n = n := by unfold placeI; rw [if_neg (by omega), if_neg (by omega)]
theorem max_size (s : ByteArray) : max (s.size : Int) 0 = s.size := by omega
theorem ba_ext (x y : ByteArray) (h : x.data.toList = y.data.toList) : x = y := by
  cases x with | mk a => cases y with | mk b => cases a; cases b; simp at h; rw [h]
theorem ext_nil (s : ByteArray) : s.extract 0 0 = ⟨#[]⟩ := ba_ext _ _ (by rw [extract_list]; simp)
theorem ext_all (s : ByteArray) (p : Nat) : s.extract 0 p ++ s.extract p s.size = s := by
  apply ba_ext
  have e2 : (s.extract 0 p ++ s.extract p s.size).data.toList = (s.extract 0 p).data.toList ++ (s.extract p s.size).data.toList := by rw [ByteArray.data_append, Array.toList_append]
  rw [e2, extract_list, extract_list, List.drop_zero, Nat.sub_zero]
  have e3 : s.data.toList.length = s.size := rfl
  rw [List.take_of_length_le (l := s.data.toList.drop p) (by rw [List.length_drop, e3]; omega), List.take_append_drop]
theorem slice_v (s r : ByteArray) (f t : Int) (w : World) (hs : s.size ≤ maxLen) (hf : -9223372036854775808 ≤ f ∧ f ≤ 9223372036854775807) (ht : -9223372036854775808 ≤ t ∧ t ≤ 9223372036854775807) (hr : s.extract (lowI s f).toNat (highI s f t).toNat = r) :
    Calls Try.prog 22 #[.string s, .int .i64 f, .int .i64 t] w (Ret (.string r) w) := by
  refine (slice_i s f t w hs hf.1 hf.2 ht.1 ht.2).mono fun e w' h => ?_
  rw [hr] at h; exact h
set_option maxHeartbeats 1000000 in
theorem walk (s : ByteArray) (t : Int) (m : Int) (w : World) (ws : s.size ≤ maxLen) (wt : (Lit.int .i64 t).wf = true) (hm : w.cell? ⟨0, 0, none⟩ = some (.int .i64 m)) :
    Calls Try.prog 9 #[.string s, .int .i64 t] w fun e w' => e = .returned (.bool true) ∧ Below w.heap.size w w' := by
  have hw0 : 0 < w.heap.size := World.block_lt_of_cell? w _ hm
  have bt := int_bd wt
  have bs : (s.size : Int) ≤ 9223372036854775807 := by unfold maxLen at ws; omega
  have p := placeI_le s.size t (by omega)
  by_cases h : t = 0 ∨ t < 0 ∧ t ≤ 0 - (s.size : Int)
  · have hp : placeI s.size t = 0 := by unfold placeI; (repeat' split) <;> omega
    have K1 := Lib.hid (fun w => slice_v s ⟨#[]⟩ 0 t w ws (by omega) bt (by
      rw [lowI, highI, max_size, placeI_zero _ (by omega), hp]; exact ext_nil s))
    have K2 := Lib.hid (fun w => slice_v s s t s.size w ws bt (by omega) (by
      rw [lowI, highI, max_size, placeI_full _ (by omega), hp]
      have e : max 0 (s.size : Int) = s.size := by omega
      rw [e]; simp only [Int.toNat_zero, Int.toNat_natCast]
      refine ba_ext _ _ ?_
      rw [extract_list, List.drop_zero, List.take_of_length_le (by simp)]))
    clear hp p
    rcases h with rfl | ⟨h1, h2⟩
    · go_enter Try.func9, Try.ntmps9
      go_wp2_with fail
      refine (K1.out _).mono ?_
      rintro e w1 ⟨rfl, c1⟩
      change Below _ _ _ at c1
      go_wp2_with fail
      refine (K2.out _).mono ?_
      rintro e w2 ⟨rfl, c2⟩
      replace c2 := c1.trans ((show Below _ _ _ from c2).mono c1.size)
      have hm2 : w2.cell? ⟨0, 0, none⟩ = some (.int .i64 m) := (c2.cell (p := ⟨0, 0, none⟩) hw0).trans hm
      go_wp2_with fail
      refine (said_r m _ hm2).mono ?_
      rintro e w3 ⟨rfl, c3⟩
      replace c3 := c2.trans ((show Below _ _ _ from c3).mono c2.size)
      go_wp2
      go_ret
      exact ⟨rfl, c3⟩
    · have ht0 : (t == 0) = false := by rw [beq_eq_false_iff_ne]; omega
      go_enter Try.func9, Try.ntmps9
      go_wp2_with fail
      refine (K1.out _).mono ?_
      rintro e w1 ⟨rfl, c1⟩
      change Below _ _ _ at c1
      go_wp2_with fail
      refine (K2.out _).mono ?_
      rintro e w2 ⟨rfl, c2⟩
      replace c2 := c1.trans ((show Below _ _ _ from c2).mono c1.size)
      have hm2 : w2.cell? ⟨0, 0, none⟩ = some (.int .i64 m) := (c2.cell (p := ⟨0, 0, none⟩) hw0).trans hm
      go_wp2_with fail
      refine (said_r m _ hm2).mono ?_
      rintro e w3 ⟨rfl, c3⟩
      replace c3 := c2.trans ((show Below _ _ _ from c3).mono c2.size)
      go_wp2
      go_ret
      exact ⟨rfl, c3⟩
  · obtain ⟨a, b, ha, hb, hab, hsz⟩ : ∃ a b : ByteArray, s.extract (lowI s 0).toNat (highI s 0 t).toNat = a ∧ s.extract (lowI s t).toNat (highI s t s.size).toNat = b ∧ ((a ++ b).toList == s.toList) = true ∧ a.size + b.size ≤ 9223372036854775807 := by
      refine ⟨_, _, rfl, rfl, ?_⟩
      have e1 : lowI s 0 = 0 := by rw [lowI, max_size, placeI_zero _ (by omega)]
      have e2 : highI s 0 t = lowI s t := by rw [lowI, highI, max_size, placeI_zero _ (by omega)]; omega
      have e3 : highI s t s.size = s.size := by rw [highI, max_size, placeI_full _ (by omega)]; omega
      rw [e1, e2, e3]
      have := ext_all s (lowI s t).toNat
      have hz : (s.extract 0 (lowI s t).toNat ++ s.extract (lowI s t).toNat s.size).size = s.size := by rw [this]
      rw [ByteArray.size_append] at hz
      refine ⟨?_, by simp only [Int.toNat_natCast, Int.toNat_zero]; omega⟩
      simp only [Int.toNat_natCast, Int.toNat_zero, this]; simp
    have K1 := Lib.hid (fun w => slice_v s a 0 t w ws (by omega) bt ha)
    have K2 := Lib.hid (fun w => slice_v s b t s.size w ws bt (by omega) hb)
    have ht0 : (t == 0) = false := by rw [beq_eq_false_iff_ne]; omega
    have ht1 : ¬ (t < 0 ∧ t ≤ 0 - (s.size : Int)) := by omega
    clear p ha hb h
    have hcase : 0 ≤ t ∨ (t < 0 ∧ -(s.size : Int) < t) := by omega
    clear ht1
    rcases hcase with h1 | ⟨h1, h2⟩
    all_goals
      go_enter Try.func9, Try.ntmps9
      go_wp2_with fail
      refine (K1.out _).mono ?_
      rintro e w1 ⟨rfl, c1⟩
      change Below _ _ _ at c1
      go_wp2_with fail
      refine (K2.out _).mono ?_
      rintro e w2 ⟨rfl, c2⟩
      replace c2 := c1.trans ((show Below _ _ _ from c2).mono c1.size)
      have hm2 : w2.cell? ⟨0, 0, none⟩ = some (.int .i64 m) := (c2.cell (p := ⟨0, 0, none⟩) hw0).trans hm
      go_wp2_with fail
      refine (said_r m _ hm2).mono ?_
      rintro e w3 ⟨rfl, c3⟩
      replace c3 := c2.trans ((show Below _ _ _ from c3).mono c2.size)
      go_wp2
      go_ret
      exact ⟨rfl, c3⟩
set_option maxRecDepth 100000 in
theorem lifted (os : Os) (started : os.Started) (H : Type) (enc : TypeId × Value → H) :
    ReturnsInHanded {} Try.checked os 9 .any (Rows.textWholeSpec.pre6 enc Try.prog Try.f9 Rows.textWholeRow.domain false) (Rows.textWholeSpec.post enc Try.prog Try.f9 false true false false) := by
  refine law_lift (C := Try.checked) own started (by kernel_rfl) Try.func9
    (ChangeSpec.witness6 (enc := enc) (C := Try.checked) false ⟨#[], #[.string ⟨#[]⟩, .int .i64 0], []⟩ 8 (by kernel_rfl) (by kernel_rfl) (by kernel_rfl) (by kernel_rfl))
    (by kernel_rfl) (by kernel_rfl) rfl (fun ds h => by
      match ds, h with
      | [d1, d2], _ => exact ⟨rfl, rfl, rfl⟩) rfl Try.underlying4 ?_
  intro W base args ds ps hval hA hlt hwt hsh
  rw [Try.params9] at hA hval
  obtain ⟨v0, vs0, d0, ds0, p0, q0, hargs, rfl, rfl, h0, r0⟩ := trodAll_cons hA
  obtain ⟨v1, vs1, d1, ds1, p1, q1, rfl, rfl, rfl, h1, r1⟩ := trodAll_cons r0
  obtain ⟨rfl, rfl, rfl⟩ := trodAll_nil r1
  obtain rfl : args = #[v0, v1] := by cases args; simp_all
  obtain ⟨a0, rfl, rfl, rfl, w0⟩ := open_string Try.underlying9 (hval 0 9 v0 rfl rfl) h0
  obtain ⟨a1, rfl, rfl, rfl, w1⟩ := open_int Try.underlying2 (hval 1 2 v1 rfl rfl) h1
  obtain ⟨m, hm⟩ := shaped_m W hsh
  -- WALK
  exact walk a0 a1 m W w0 w1 hm
theorem proved : Rows.TextWholeSaid :=
  OpenClaim.holds_of_wide 9 Try.f9 rfl rfl rfl rfl rfl rfl rfl ⟨rfl, rfl, rfl, rfl, rfl⟩ rfl rfl rfl rfl rfl (by kernel_rfl) Try.func9 (by kernel_rfl)
    (of_decide_eq_true (by kernel_rfl)) (by unfold Func.isWrapper; first | (rw [if_pos (by decide +kernel)]; kernel_rfl) | (rw [if_neg (by decide +kernel)]; exact ⟨rfl, rfl⟩))
    (fun os started H enc _ => lifted os started H enc)
#print axioms proved
end Go.Proofs.Ytilmhlblilmcfaa.textWhole
