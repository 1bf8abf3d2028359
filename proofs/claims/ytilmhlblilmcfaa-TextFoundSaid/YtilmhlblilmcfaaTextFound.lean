/-
  TextFound: for every two strs the law returns true: what is found stands there, and nowhere ahead of it; what is not found parts nothing. No condition.
-/
import Derived.Test.YtilmhlblilmcfaaTextEnv3
namespace Go.Proofs.Ytilmhlblilmcfaa.textFound
open Go.ChangeShapes Go.WideShapes Go.ChangeAt Go.RowKit
open Go.ChangeMaps (open_string)
set_option linter.unusedVariables false
set_option maxHeartbeats 1000000 in
theorem far (s sep : ByteArray) (m : Int) (w : World) (ws : s.size ≤ maxLen) (wp : sep.size ≤ maxLen) (h : 20000 < s.size ∨ s.size ≤ 20000 ∧ 200 < sep.size) :
    Calls Try.prog 10 #[.string s, .string sep] w fun e w' => e = .returned (.bool true) ∧ Below w.heap.size w w' := by
  unfold maxLen at ws wp
  rcases h with h | ⟨h, h2⟩
  all_goals
    go_enter Try.func10, Try.ntmps10
    go_wp2
    go_ret
    exact ⟨rfl, Below.refl _ _⟩
theorem slice_v (s r : ByteArray) (f t : Int) (w : World) (hs : s.size ≤ maxLen) (hf : -9223372036854775808 ≤ f ∧ f ≤ 9223372036854775807) (ht : -9223372036854775808 ≤ t ∧ t ≤ 9223372036854775807) (hr : s.extract (lowI s f).toNat (highI s f t).toNat = r) :
    Calls Try.prog 22 #[.string s, .int .i64 f, .int .i64 t] w (Ret (.string r) w) := by
  refine (slice_i s f t w hs hf.1 hf.2 ht.1 ht.2).mono fun e w' h => ?_
  rw [hr] at h; exact h
theorem placeI_id (n i : Int) (h : 0 ≤ i) (h' : i ≤ n) : placeI n i = i := by
  unfold placeI; rw [if_neg (by omega), if_neg (by omega)]
theorem bounds_id (s : ByteArray) (f t : Int) (h : 0 ≤ f) (h2 : f ≤ t) (h3 : t ≤ s.size) : lowI s f = f ∧ highI s f t = t := by
  unfold lowI highI
  rw [placeI_id _ _ h (by omega), placeI_id _ _ (by omega) (by omega)]; omega
theorem ba_ext (x y : ByteArray) (h : x.data.toList = y.data.toList) : x = y := by
  cases x with | mk a => cases y with | mk b => cases a; cases b; simp at h; rw [h]
set_option maxHeartbeats 1000000 in
theorem miss (s sub : ByteArray) (m : Int) (w : World) (h1 : s.size ≤ 20000) (h2 : sub.size ≤ 200) (hi : Lib.index s.data.toList sub.data.toList = -1) (hm : w.cell? ⟨0, 0, none⟩ = some (.int .i64 m)) :
    Calls Try.prog 10 #[.string s, .string sub] w fun e w' => e = .returned (.bool true) ∧ Below w.heap.size w w' := by
  have hw0 : 0 < w.heap.size := World.block_lt_of_cell? w _ hm
  have kf := (find_pair s sub m (by omega) (by unfold maxLen; omega)).1
  rw [hi] at kf
  have KF := Lib.hid kf
  have h0 : 0 < sub.size := by
    rcases Nat.eq_zero_or_pos sub.size with e | e
    · have : sub.data.toList = [] := List.length_eq_zero_iff.1 e
      rw [this, Lib.index_empty] at hi; omega
    · exact e
  have hnum : IsNum s.data.toList sub.data.toList 1 := ⟨by omega, fun k hk => by omega, by
    show (Lib.cut s.data.toList sub.data.toList).2.2 = false
    unfold Lib.cut; rw [hi, if_neg (by omega)]⟩
  have K1 := Lib.hid (fun w hm => split_ok s sub 1 m w h0 hnum.1 (by omega) (by omega) hnum.2.1 hnum.2.2 hm)
  have he := isE_of_pos sub h0
  clear kf hi hnum
  go_enter Try.func10, Try.ntmps10
  go_wp2_with fail
  refine (KF.out _ hm).mono ?_
  rintro e w1 ⟨rfl, c1⟩
  change Below _ _ _ at c1
  have hm1 : w1.cell? ⟨0, 0, none⟩ = some (.int .i64 m) := (c1.cell (p := ⟨0, 0, none⟩) hw0).trans hm
  go_wp2_with fail
  refine (K1.out _ hm1).mono ?_
  rintro e w2 ⟨g, cap, rfl, _, _, _, _, c2⟩
  replace c2 := c1.trans ((show Below _ _ _ from c2).mono c1.size)
  have hm2 : w2.cell? ⟨0, 0, none⟩ = some (.int .i64 m) := (c2.cell (p := ⟨0, 0, none⟩) hw0).trans hm
  clear c1 hm1
  go_wp2_with fail
  refine (said_r m _ hm2).mono ?_
  rintro e w3 ⟨rfl, c3⟩
  replace c3 := c2.trans ((show Below _ _ _ from c3).mono c2.size)
  clear c2 hm2
  go_wp2
  go_ret
  exact ⟨rfl, c3⟩
set_option maxHeartbeats 1000000 in
theorem some_ (s sub : ByteArray) (i : Nat) (m : Int) (w : World) (h1 : s.size ≤ 20000) (h2 : sub.size ≤ 200) (hi : Lib.index s.data.toList sub.data.toList = i) (hil : i + sub.size ≤ s.size)
    (ho : Lib.occAt s.data.toList sub.data.toList i = true) (hno : ∀ j, j < i → Lib.occAt s.data.toList sub.data.toList j = false) (hm : w.cell? ⟨0, 0, none⟩ = some (.int .i64 m)) :
    Calls Try.prog 10 #[.string s, .string sub] w fun e w' => e = .returned (.bool true) ∧ Below w.heap.size w w' := by
  have hw0 : 0 < w.heap.size := World.block_lt_of_cell? w _ hm
  have kf := (find_pair s sub m (by omega) (by unfold maxLen; omega)).1
  rw [hi] at kf
  have KF := Lib.hid kf
  have hb1 := bounds_id s i (i + sub.size) (by omega) (by omega) (by omega)
  have hs1 : s.extract i (i + sub.size) = sub := by
    have := occ_extract s sub i hil
    rw [ho, beq_iff_eq, ByteArray.toList_eq, ByteArray.toList_eq] at this
    exact ba_ext _ _ this
  have K1 := Lib.hid (fun w => slice_v s sub i (i + sub.size) w (by unfold maxLen; omega) (by omega) (by omega) (by
    rw [hb1.1, hb1.2]; rw [show ((i : Int) + (sub.size : Int)).toNat = i + sub.size by omega, Int.toNat_natCast]; exact hs1))
  by_cases h0 : sub.size = 0
  · have hz : ((sub.size : Int) == 0) = true := by rw [beq_iff_eq]; omega
    have hz2 : ¬ (0 < (sub.size : Int)) := by omega
    clear kf hi hs1 hb1 hno ho h0
    go_enter Try.func10, Try.ntmps10
    go_wp2_with fail
    refine (KF.out _ hm).mono ?_
    rintro e w1 ⟨rfl, c1⟩
    change Below _ _ _ at c1
    go_wp2_with fail
    refine (K1.out _).mono ?_
    rintro e w2 ⟨rfl, c2⟩
    replace c2 := c1.trans ((show Below _ _ _ from c2).mono c1.size)
    have hm2 : w2.cell? ⟨0, 0, none⟩ = some (.int .i64 m) := (c2.cell (p := ⟨0, 0, none⟩) hw0).trans hm
    clear c1
    go_wp2_with fail
    refine (said_r m _ hm2).mono ?_
    rintro e w3 ⟨rfl, c3⟩
    replace c3 := c2.trans ((show Below _ _ _ from c3).mono c2.size)
    clear c2 hm2
    go_wp2
    go_ret
    exact ⟨rfl, c3⟩
  · have hsub : sub.data.toList ≠ [] := sep_ne sub (by omega)
    have hb2 := bounds_id s 0 (i + sub.size - 1) (by omega) (by omega) (by omega)
    have K2 := Lib.hid (fun w => slice_v s (s.extract 0 (i + sub.size - 1)) 0 (i + sub.size - 1) w (by unfold maxLen; omega) (by omega) (by omega) (by
      rw [hb2.1, hb2.2]; rw [show ((i : Int) + (sub.size : Int) - 1).toNat = i + sub.size - 1 by omega]; rfl))
    have hx : Lib.index (s.extract 0 (i + sub.size - 1)).data.toList sub.data.toList = -1 := by
      rw [extract_list, List.drop_zero]
      have e : sub.data.toList.length = sub.size := rfl
      exact index_take hsub hno (by rw [e]; omega)
    have hxs : (s.extract 0 (i + sub.size - 1)).size ≤ 20000 := by
      have e : (s.extract 0 (i + sub.size - 1)).size = (s.extract 0 (i + sub.size - 1)).data.toList.length := rfl
      rw [e, extract_list]
      have := List.length_take_le (i + sub.size - 1 - 0) (s.data.toList.drop 0)
      omega
    obtain ⟨r, hr⟩ : ∃ r, s.extract 0 (i + sub.size - 1) = r := ⟨_, rfl⟩
    rw [hr] at K2 hx hxs
    have kf2 := (find_pair r sub m (by omega) (by unfold maxLen; omega)).1
    rw [hx] at kf2
    have KF2 := Lib.hid kf2
    have hz : ((sub.size : Int) == 0) = false := by rw [beq_eq_false_iff_ne]; omega
    clear kf hi hs1 hb1 hno ho h0 hb2 hx hr hxs kf2
    go_enter Try.func10, Try.ntmps10
    go_wp2_with fail
    refine (KF.out _ hm).mono ?_
    rintro e w1 ⟨rfl, c1⟩
    change Below _ _ _ at c1
    go_wp2_with fail
    refine (K1.out _).mono ?_
    rintro e w2 ⟨rfl, c2⟩
    replace c2 := c1.trans ((show Below _ _ _ from c2).mono c1.size)
    have hm2 : w2.cell? ⟨0, 0, none⟩ = some (.int .i64 m) := (c2.cell (p := ⟨0, 0, none⟩) hw0).trans hm
    clear c1
    go_wp2_with fail
    refine (said_r m _ hm2).mono ?_
    rintro e w3 ⟨rfl, c3⟩
    replace c3 := c2.trans ((show Below _ _ _ from c3).mono c2.size)
    clear c2 hm2
    go_wp2_with fail
    refine (K2.out _).mono ?_
    rintro e w4 ⟨rfl, c4⟩
    replace c4 := c3.trans ((show Below _ _ _ from c4).mono c3.size)
    have hm4 : w4.cell? ⟨0, 0, none⟩ = some (.int .i64 m) := (c4.cell (p := ⟨0, 0, none⟩) hw0).trans hm
    clear c3
    go_wp2_with fail
    refine (KF2.out _ hm4).mono ?_
    rintro e w5 ⟨rfl, c5⟩
    replace c5 := c4.trans ((show Below _ _ _ from c5).mono c4.size)
    clear c4 hm4
    go_wp2
    go_ret
    exact ⟨rfl, c5⟩
theorem walk (s sub : ByteArray) (m : Int) (w : World) (ws : s.size ≤ maxLen) (wp : sub.size ≤ maxLen) (hm : w.cell? ⟨0, 0, .none⟩ = some (.int .i64 m)) :
    Calls Try.prog 10 #[.string s, .string sub] w fun e w' => e = .returned (.bool true) ∧ Below w.heap.size w w' := by
  by_cases h : s.size ≤ 20000 ∧ sub.size ≤ 200
  · rcases index_spec s.data.toList sub.data.toList with ⟨h1, _⟩ | ⟨i, h1, h2, h3, h4⟩
    · exact miss s sub m w h.1 h.2 h1 hm
    · refine some_ s sub i m w h.1 h.2 h1 ?_ h3 h4 hm
      have e1 : s.data.toList.length = s.size := rfl
      have e2 : sub.data.toList.length = sub.size := rfl
      rcases Lib.occAt_room h3 with h5 | h5
      · omega
      · rw [h5] at e2; simp at e2; omega
  · exact far s sub m w ws wp (by omega)
set_option maxRecDepth 100000 in
theorem lifted (os : Os) (started : os.Started) (H : Type) (enc : TypeId × Value → H) :
    ReturnsInHanded {} Try.checked os 10 .any (Rows.textFoundSpec.pre6 enc Try.prog Try.f10 Rows.textFoundRow.domain false) (Rows.textFoundSpec.post enc Try.prog Try.f10 false true false false) := by
  refine law_lift (C := Try.checked) own started (by kernel_rfl) Try.func10
    (ChangeSpec.witness6 (enc := enc) (C := Try.checked) false ⟨#[], #[.string ⟨#[]⟩, .string ⟨#[]⟩], []⟩ 8 (by kernel_rfl) (by kernel_rfl) (by kernel_rfl) (by kernel_rfl))
    (by kernel_rfl) (by kernel_rfl) rfl (fun ds h => by
      match ds, h with
      | [d1, d2], _ => exact ⟨rfl, rfl, rfl⟩) rfl Try.underlying4 ?_
  intro W base args ds ps hval hA hlt hwt hsh
  rw [Try.params10] at hA hval
  obtain ⟨v0, vs0, d0, ds0, p0, q0, hargs, rfl, rfl, h0, r0⟩ := trodAll_cons hA
  obtain ⟨v1, vs1, d1, ds1, p1, q1, rfl, rfl, rfl, h1, r1⟩ := trodAll_cons r0
  obtain ⟨rfl, rfl, rfl⟩ := trodAll_nil r1
  obtain rfl : args = #[v0, v1] := by cases args; simp_all
  obtain ⟨a0, rfl, rfl, rfl, w0⟩ := open_string Try.underlying9 (hval 0 9 v0 rfl rfl) h0
  obtain ⟨a1, rfl, rfl, rfl, w1⟩ := open_string Try.underlying9 (hval 1 9 v1 rfl rfl) h1
  obtain ⟨m, hm⟩ := shaped_m W hsh
  -- WALK
  exact walk a0 a1 m W w0 w1 hm
theorem proved : Rows.TextFoundSaid :=
  OpenClaim.holds_of_wide 10 Try.f10 rfl rfl rfl rfl rfl rfl rfl ⟨rfl, rfl, rfl, rfl, rfl⟩ rfl rfl rfl rfl rfl (by kernel_rfl) Try.func10 (by kernel_rfl)
    (of_decide_eq_true (by kernel_rfl)) (by unfold Func.isWrapper; first | (rw [if_pos (by decide +kernel)]; kernel_rfl) | (rw [if_neg (by decide +kernel)]; exact ⟨rfl, rfl⟩))
    (fun os started H enc _ => lifted os started H enc)
#print axioms proved
end Go.Proofs.Ytilmhlblilmcfaa.textFound
