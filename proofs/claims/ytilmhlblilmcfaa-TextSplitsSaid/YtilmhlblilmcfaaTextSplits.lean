/-
  TextSplits: for every two strs the law returns true: a str is split into just these pieces, or just this is raised, and another one is found just here. No condition.
-/
import Derived.Test.YtilmhlblilmcfaaTextEnv2
namespace Go.Proofs.Ytilmhlblilmcfaa.textSplits
open Go.ChangeShapes Go.WideShapes Go.ChangeAt Go.RowKit
open Go.ChangeMaps (open_string)
set_option linter.unusedVariables false
set_option maxHeartbeats 1000000 in
theorem far (s sep : ByteArray) (m : Int) (w : World) (ws : s.size ≤ maxLen) (wp : sep.size ≤ maxLen) (h : 20000 < s.size ∨ s.size ≤ 20000 ∧ 200 < sep.size) :
    Calls Try.prog 6 #[.string s, .string sep] w fun e w' => e = .returned (.bool true) ∧ Below w.heap.size w w' := by
  unfold maxLen at ws wp
  rcases h with h | ⟨h, h2⟩
  all_goals
    go_enter Try.func6, Try.ntmps6
    go_wp2
    go_ret
    exact ⟨rfl, Below.refl _ _⟩
set_option maxHeartbeats 2000000 in
theorem near (s sep : ByteArray) (m : Int) (w : World) (h1 : s.size ≤ 20000) (h2 : sep.size ≤ 200) (hm : w.cell? ⟨0, 0, none⟩ = some (.int .i64 m)) :
    Calls Try.prog 6 #[.string s, .string sep] w fun e w' => e = .returned (.bool true) ∧ Below w.heap.size w w' := by
  have hw0 : 0 < w.heap.size := World.block_lt_of_cell? w _ hm
  have KF := Lib.hid (find_pair s sep m (by omega) (by unfold maxLen; omega))
  by_cases h0 : sep.size = 0
  · have K1 := Lib.hid (fun w => split_empty s sep w h0)
    have K2 := Lib.hid (fun w => ret_same (ref_split_empty s sep w h0))
    clear h0
    go_enter Try.func6, Try.ntmps6
    go_wp2_with fail
    refine (K1.out _).mono ?_
    rintro e w1 ⟨rfl, c1⟩
    change Below _ _ _ at c1
    go_wp2_with fail
    refine (K2.out _).mono ?_
    rintro e w2 ⟨rfl, c2⟩
    replace c2 := c1.trans ((show Below _ _ _ from c2).mono c1.size)
    clear c1
    have hm2 : w2.cell? ⟨0, 0, none⟩ = some (.int .i64 m) := (c2.cell (p := ⟨0, 0, none⟩) hw0).trans hm
    go_wp2_with fail
    refine (said_r m _ hm2).mono ?_
    rintro e w3 ⟨rfl, c3⟩
    replace c3 := c2.trans ((show Below _ _ _ from c3).mono c2.size)
    clear c2 hm2
    go_wp2_with fail
    refine (ref_same_none none none 0 0 _).mono ?_
    rintro e w4 ⟨rfl, rfl⟩
    have hm3 : w3.cell? ⟨0, 0, none⟩ = some (.int .i64 m) := (c3.cell (p := ⟨0, 0, none⟩) hw0).trans hm
    go_wp2_with fail
    refine (KF.out.1 _ hm3).mono ?_
    rintro e w5 ⟨rfl, c5⟩
    replace c5 := c3.trans ((show Below _ _ _ from c5).mono c3.size)
    clear c3 hm3
    go_wp2_with fail
    refine (KF.out.2 _).mono ?_
    rintro e w6 ⟨rfl, c6⟩
    replace c6 := c5.trans ((show Below _ _ _ from c6).mono c5.size)
    clear c5
    go_wp2
    go_ret
    exact ⟨rfl, c6⟩
  · have e1 : s.data.toList.length = s.size := rfl
    obtain ⟨n, hn, hnum⟩ := isNum_exists sep.data.toList (sep_ne sep (by omega)) _ s.data.toList (Nat.le_refl _)
    rcases split_pair s sep n (by omega) (by unfold maxLen; omega) (by omega) hnum m with ⟨h4, k1, k2⟩ | ⟨h4, k1, k2⟩
    · have K1 := Lib.hid k1
      have K2 := Lib.hid k2
      have NP := hnum.1
      clear k1 k2 h0 e1 hnum hn
      go_enter Try.func6, Try.ntmps6
      go_wp2_with fail
      refine (K1.out _ hm).mono ?_
      rintro e w1 ⟨g1, cap1, rfl, hc1, hcap1, hg1, hg1', c1⟩
      change Below _ _ _ at c1
      have HC1 := Lib.hid hc1
      clear hc1
      go_wp2_with fail
      refine (K2.out _).mono ?_
      rintro e w2 ⟨g2, cap2, rfl, hc2, hcap2, hg2, hg2', c2⟩
      have HC2 := Lib.hid hc2
      clear hc2
      have HD1 : Hid (∀ j, j < n → w2.cell? ⟨g1, j, none⟩ = some (.string (pieceS s.data.toList sep.data.toList j))) := fun j hj => ((show Below _ _ _ from c2).cell (p := ⟨g1, j, none⟩) hg1').trans (HC1.out j hj)
      have hg3 : g1 < w2.heap.size := Nat.lt_of_lt_of_le hg1' (show Below _ _ _ from c2).size
      replace c2 := c1.trans ((show Below _ _ _ from c2).mono c1.size)
      clear c1 HC1 hg1'
      have hm2 : w2.cell? ⟨0, 0, none⟩ = some (.int .i64 m) := (c2.cell (p := ⟨0, 0, none⟩) hw0).trans hm
      go_wp2_with fail
      refine (said_r m _ hm2).mono ?_
      rintro e w3 ⟨rfl, c3⟩
      have HE1 : Hid (∀ j, j < n → w3.cell? ⟨g1, j, none⟩ = some (.string (pieceS s.data.toList sep.data.toList j))) := fun j hj => ((show Below _ _ _ from c3).cell (p := ⟨g1, j, none⟩) hg3).trans (HD1.out j hj)
      have HE2 : Hid (∀ j, j < n → w3.cell? ⟨g2, j, none⟩ = some (.string (pieceS s.data.toList sep.data.toList j))) := fun j hj => ((show Below _ _ _ from c3).cell (p := ⟨g2, j, none⟩) hg2').trans (HC2.out j hj)
      replace c3 := c2.trans ((show Below _ _ _ from c3).mono c2.size)
      clear c2 hm2 HD1 HC2
      go_wp2_with fail
      refine (ret_drewN (ref_same g1 g2 n cap1 cap2 (pieceS s.data.toList sep.data.toList) _ HE1.out HE2.out (by omega))).mono ?_
      rintro e w4 ⟨rfl, c4⟩
      replace c4 := c3.trans ((show Below _ _ _ from c4).mono c3.size)
      have hm4 : w4.cell? ⟨0, 0, none⟩ = some (.int .i64 m) := (c4.cell (p := ⟨0, 0, none⟩) hw0).trans hm
      clear c3 HE1 HE2
      go_wp2_with fail
      refine (KF.out.1 _ hm4).mono ?_
      rintro e w5 ⟨rfl, c5⟩
      replace c5 := c4.trans ((show Below _ _ _ from c5).mono c4.size)
      clear c4 hm4
      go_wp2_with fail
      refine (KF.out.2 _).mono ?_
      rintro e w6 ⟨rfl, c6⟩
      replace c6 := c5.trans ((show Below _ _ _ from c6).mono c5.size)
      clear c5
      go_wp2
      go_ret
      exact ⟨rfl, c6⟩
    · have K1 := Lib.hid k1
      have K2 := Lib.hid k2
      clear k1 k2 h0 e1 hnum hn h4
      go_enter Try.func6, Try.ntmps6
      go_wp2_with fail
      refine (K1.out _ hm).mono ?_
      rintro e w1 ⟨rfl, c1⟩
      change Below _ _ _ at c1
      go_wp2_with fail
      refine (K2.out _).mono ?_
      rintro e w2 ⟨rfl, c2⟩
      replace c2 := c1.trans ((show Below _ _ _ from c2).mono c1.size)
      clear c1
      have hm2 : w2.cell? ⟨0, 0, none⟩ = some (.int .i64 m) := (c2.cell (p := ⟨0, 0, none⟩) hw0).trans hm
      go_wp2_with fail
      refine (said_r m _ hm2).mono ?_
      rintro e w3 ⟨rfl, c3⟩
      replace c3 := c2.trans ((show Below _ _ _ from c3).mono c2.size)
      clear c2 hm2
      go_wp2_with fail
      refine (ref_same_none none none 0 0 _).mono ?_
      rintro e w4 ⟨rfl, rfl⟩
      have hm3 : w3.cell? ⟨0, 0, none⟩ = some (.int .i64 m) := (c3.cell (p := ⟨0, 0, none⟩) hw0).trans hm
      go_wp2_with fail
      refine (KF.out.1 _ hm3).mono ?_
      rintro e w5 ⟨rfl, c5⟩
      replace c5 := c3.trans ((show Below _ _ _ from c5).mono c3.size)
      clear c3 hm3
      go_wp2_with fail
      refine (KF.out.2 _).mono ?_
      rintro e w6 ⟨rfl, c6⟩
      replace c6 := c5.trans ((show Below _ _ _ from c6).mono c5.size)
      clear c5
      go_wp2
      go_ret
      exact ⟨rfl, c6⟩
theorem walk (s sep : ByteArray) (m : Int) (w : World) (ws : s.size ≤ maxLen) (wp : sep.size ≤ maxLen) (hm : w.cell? ⟨0, 0, none⟩ = some (.int .i64 m)) :
    Calls Try.prog 6 #[.string s, .string sep] w fun e w' => e = .returned (.bool true) ∧ Below w.heap.size w w' := by
  by_cases h : s.size ≤ 20000 ∧ sep.size ≤ 200
  · exact near s sep m w h.1 h.2 hm
  · exact far s sep m w ws wp (by omega)
set_option maxRecDepth 100000 in
theorem lifted (os : Os) (started : os.Started) (H : Type) (enc : TypeId × Value → H) :
    ReturnsInHanded {} Try.checked os 6 .any (Rows.textSplitsSpec.pre6 enc Try.prog Try.f6 Rows.textSplitsRow.domain false) (Rows.textSplitsSpec.post enc Try.prog Try.f6 false true false false) := by
  refine law_lift (C := Try.checked) own started (by kernel_rfl) Try.func6
    (ChangeSpec.witness6 (enc := enc) (C := Try.checked) false ⟨#[], #[.string ⟨#[]⟩, .string ⟨#[]⟩], []⟩ 8 (by kernel_rfl) (by kernel_rfl) (by kernel_rfl) (by kernel_rfl))
    (by kernel_rfl) (by kernel_rfl) rfl (fun ds h => by
      match ds, h with
      | [d1, d2], _ => exact ⟨rfl, rfl, rfl⟩) rfl Try.underlying4 ?_
  intro W base args ds ps hval hA hlt hwt hsh
  rw [Try.params6] at hA hval
  obtain ⟨v0, vs0, d0, ds0, p0, q0, hargs, rfl, rfl, h0, r0⟩ := trodAll_cons hA
  obtain ⟨v1, vs1, d1, ds1, p1, q1, rfl, rfl, rfl, h1, r1⟩ := trodAll_cons r0
  obtain ⟨rfl, rfl, rfl⟩ := trodAll_nil r1
  obtain rfl : args = #[v0, v1] := by cases args; simp_all
  obtain ⟨a0, rfl, rfl, rfl, w0⟩ := open_string Try.underlying9 (hval 0 9 v0 rfl rfl) h0
  obtain ⟨a1, rfl, rfl, rfl, w1⟩ := open_string Try.underlying9 (hval 1 9 v1 rfl rfl) h1
  obtain ⟨m, hm⟩ := shaped_m W hsh
  -- WALK
  exact walk a0 a1 m W w0 w1 hm
theorem proved : Rows.TextSplitsSaid :=
  OpenClaim.holds_of_wide 6 Try.f6 rfl rfl rfl rfl rfl rfl rfl ⟨rfl, rfl, rfl, rfl, rfl⟩ rfl rfl rfl rfl rfl (by kernel_rfl) Try.func6 (by kernel_rfl)
    (of_decide_eq_true (by kernel_rfl)) (by unfold Func.isWrapper; first | (rw [if_pos (by decide +kernel)]; kernel_rfl) | (rw [if_neg (by decide +kernel)]; exact ⟨rfl, rfl⟩))
    (fun os started H enc _ => lifted os started H enc)
#print axioms proved
end Go.Proofs.Ytilmhlblilmcfaa.textSplits
