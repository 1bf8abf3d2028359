/-
  TextBack: for every two strs the law returns true: what was split is joined again, and no piece has what parted it. No condition.
-/
import Derived.Test.YtilmhlblilmcfaaTextEnv3
namespace Go.Proofs.Ytilmhlblilmcfaa.textBack
open Go.ChangeShapes Go.WideShapes Go.ChangeAt Go.RowKit
open Go.ChangeMaps (open_string)
set_option linter.unusedVariables false
set_option maxHeartbeats 1000000 in
theorem far (s sep : ByteArray) (m : Int) (w : World) (ws : s.size ≤ maxLen) (wp : sep.size ≤ maxLen) (h : 20000 < s.size ∨ s.size ≤ 20000 ∧ 200 < sep.size) :
    Calls Try.prog 8 #[.string s, .string sep] w fun e w' => e = .returned (.bool true) ∧ Below w.heap.size w w' := by
  unfold maxLen at ws wp
  rcases h with h | ⟨h, h2⟩
  all_goals
    go_enter Try.func8, Try.ntmps8
    go_wp2
    go_ret
    exact ⟨rfl, Below.refl _ _⟩
theorem ba_ext (x y : ByteArray) (h : x.data.toList = y.data.toList) : x = y := by
  cases x with | mk a => cases y with | mk b => cases a; cases b; simp at h; rw [h]
set_option maxHeartbeats 1000000 in
theorem near (s sep : ByteArray) (m : Int) (w : World) (h1 : s.size ≤ 20000) (h2 : sep.size ≤ 200) (hm : w.cell? ⟨0, 0, none⟩ = some (.int .i64 m)) :
    Calls Try.prog 8 #[.string s, .string sep] w fun e w' => e = .returned (.bool true) ∧ Below w.heap.size w w' := by
  have hw0 : 0 < w.heap.size := World.block_lt_of_cell? w _ hm
  by_cases h0 : sep.size = 0
  · have K1 := Lib.hid (fun w => split_empty s sep w h0)
    have he := isE_of_zero sep h0
    clear h0
    go_enter Try.func8, Try.ntmps8
    go_wp2_with fail
    refine (K1.out _).mono ?_
    rintro e w1 ⟨rfl, c1⟩
    change Below _ _ _ at c1
    have hm1 : w1.cell? ⟨0, 0, none⟩ = some (.int .i64 m) := (c1.cell (p := ⟨0, 0, none⟩) hw0).trans hm
    go_wp2_with fail
    refine (said_r m _ hm1).mono ?_
    rintro e w3 ⟨rfl, c3⟩
    replace c3 := c1.trans ((show Below _ _ _ from c3).mono c1.size)
    go_wp2
    go_ret
    exact ⟨rfl, c3⟩
  · have he := isE_of_pos sep (by omega)
    have e1 : s.data.toList.length = s.size := rfl
    have hsn := sep_ne sep (by omega)
    obtain ⟨n, hn, hnum⟩ := isNum_exists sep.data.toList hsn _ s.data.toList (Nat.le_refl _)
    rcases split_pair s sep n (by omega) (by unfold maxLen; omega) (by omega) hnum m with ⟨h4, k1, _⟩ | ⟨h4, k1, _⟩
    · have K1 := Lib.hid k1
      have NP := hnum.1
      obtain ⟨xs, hxs⟩ : ∃ xs : List ByteArray, (List.range n).map (pieceS s.data.toList sep.data.toList) = xs := ⟨_, rfl⟩
      have hlen : xs.length = n := by rw [← hxs]; simp
      have hat : ∀ (j : Nat) x, xs[j]? = some x → j < n ∧ x = pieceS s.data.toList sep.data.toList j := fun j x h => by
        rw [← hxs] at h
        by_cases hj : j < n
        · simp [hj] at h; exact ⟨hj, h.symm⟩
        · simp [hj] at h
      have hjoin : Lib.join (xs.map (·.data.toList)) sep.data.toList = s.data.toList := by
        rw [← hxs, List.map_map]; exact join_pieces sep.data.toList n s.data.toList hnum
      have hjn : jn sep.size xs xs.length ≤ 65536 := by rw [jn_join, hjoin, e1]; omega
      have hs : (⟨(Lib.join (xs.map (·.data.toList)) sep.data.toList).toArray⟩ : ByteArray) = s := by rw [hjoin]
      have KJ : Hid (∀ (g cap : Nat) (w : World), n ≤ cap → g < w.heap.size → (∀ j, j < n → w.cell? ⟨g, j, none⟩ = some (.string (pieceS s.data.toList sep.data.toList j))) →
          Calls Try.prog 24 #[.string sep, .slice (some ⟨g, 0, none⟩) n cap] w (Ret (.tuple #[.string s, .string ⟨#[]⟩]) w)) := fun g cap w hc hg hcell => by
        have := join_ok g 0 cap xs sep w (fun j x hx => by
          obtain ⟨hj, rfl⟩ := hat j x hx
          rw [Nat.zero_add]; exact hcell j hj) hg (by omega) (by omega) hjn (by omega) (by omega)
        rw [hs, hlen] at this; exact this
      have KF : Hid (∀ (j : Nat) (w : World), j < n → w.cell? ⟨0, 0, none⟩ = some (.int .i64 m) → Calls Try.prog 29 #[.string (pieceS s.data.toList sep.data.toList j), .string sep] w fun e w' => e = .returned (.int .i64 (-1)) ∧ w = w') := fun j w hj hm => by
        have hsz : (pieceS s.data.toList sep.data.toList j).size < 4294967281 := by
          have h1 := restL_len sep.data.toList j s.data.toList
          have h2 : (Lib.cut (restL sep.data.toList j s.data.toList) sep.data.toList).1.length ≤ (restL sep.data.toList j s.data.toList).length := by
            unfold Lib.cut; split
            · exact List.length_take_le' _ _
            · exact Nat.le_refl _
          have : (pieceS s.data.toList sep.data.toList j).size = (Lib.cut (restL sep.data.toList j s.data.toList) sep.data.toList).1.length := by simp [pieceS, ByteArray.size]
          omega
        have := find_i (pieceS s.data.toList sep.data.toList j) sep m w hsz hm
        rw [piece_clean _ _ _ hsn] at this; exact this
      clear k1 h0 e1 hnum hn hsn hlen hat hjoin hjn hs hxs
      go_enter Try.func8, Try.ntmps8
      go_wp2_with fail
      refine (K1.out _ hm).mono ?_
      rintro e w1 ⟨g, cap, rfl, hc1, hcap1, hg1, hg1', c1⟩
      change Below _ _ _ at c1
      have HC1 := Lib.hid hc1
      clear hc1 K1
      go_wp2_with fail
      refine (KJ.out g cap _ hcap1 hg1' HC1.out).mono ?_
      rintro e w2 ⟨rfl, c2⟩
      have HC2 : Hid (∀ j, j < n → w2.cell? ⟨g, j, none⟩ = some (.string (pieceS s.data.toList sep.data.toList j))) := fun j hj => ((show Below _ _ _ from c2).cell (p := ⟨g, j, none⟩) hg1').trans (HC1.out j hj)
      replace c2 := c1.trans ((show Below _ _ _ from c2).mono c1.size)
      have hm2 : w2.cell? ⟨0, 0, none⟩ = some (.int .i64 m) := (c2.cell (p := ⟨0, 0, none⟩) hw0).trans hm
      clear c1 HC1 KJ
      go_wp2_with fail
      go_loop [9] (fun i => ∃ k : Nat, k ≤ n ∧ i = .int .i64 k) (fun i => n - (intOf i).toNat)
      case atStart => exact ⟨0, by omega, rfl⟩
      case round =>
        obtain ⟨k, hk, rfl⟩ := hrel
        by_cases hlt : k < n
        · have hcell := HC2.out k hlt
          go_wp2_with fail
          refine (KF.out k _ hlt hm2).mono ?_
          rintro e w' ⟨rfl, rfl⟩
          go_wp2
          go_round
          case rel => exact ⟨k + 1, by omega, by go_num⟩
          case measure => simp [intOf]; omega
        · go_wp2_with fail
          refine (said_r m _ hm2).mono ?_
          rintro e w3 ⟨rfl, c3⟩
          replace c3 := c2.trans ((show Below _ _ _ from c3).mono c2.size)
          go_wp2
          go_ret
          exact ⟨rfl, c3⟩
    · have K1 := Lib.hid k1
      clear k1 h0 e1 hnum hn h4 hsn
      go_enter Try.func8, Try.ntmps8
      go_wp2_with fail
      refine (K1.out _ hm).mono ?_
      rintro e w1 ⟨rfl, c1⟩
      change Below _ _ _ at c1
      have hm1 : w1.cell? ⟨0, 0, none⟩ = some (.int .i64 m) := (c1.cell (p := ⟨0, 0, none⟩) hw0).trans hm
      go_wp2_with fail
      refine (said_r m _ hm1).mono ?_
      rintro e w3 ⟨rfl, c3⟩
      replace c3 := c1.trans ((show Below _ _ _ from c3).mono c1.size)
      go_wp2
      go_ret
      exact ⟨rfl, c3⟩
theorem walk (s sep : ByteArray) (m : Int) (w : World) (ws : s.size ≤ maxLen) (wp : sep.size ≤ maxLen) (hm : w.cell? ⟨0, 0, none⟩ = some (.int .i64 m)) :
    Calls Try.prog 8 #[.string s, .string sep] w fun e w' => e = .returned (.bool true) ∧ Below w.heap.size w w' := by
  by_cases h : s.size ≤ 20000 ∧ sep.size ≤ 200
  · exact near s sep m w h.1 h.2 hm
  · exact far s sep m w ws wp (by omega)
set_option maxRecDepth 100000 in
theorem lifted (os : Os) (started : os.Started) (H : Type) (enc : TypeId × Value → H) :
    ReturnsInHanded {} Try.checked os 8 .any (Rows.textBackSpec.pre6 enc Try.prog Try.f8 Rows.textBackRow.domain false) (Rows.textBackSpec.post enc Try.prog Try.f8 false true false false) := by
  refine law_lift (C := Try.checked) own started (by kernel_rfl) Try.func8
    (ChangeSpec.witness6 (enc := enc) (C := Try.checked) false ⟨#[], #[.string ⟨#[]⟩, .string ⟨#[]⟩], []⟩ 8 (by kernel_rfl) (by kernel_rfl) (by kernel_rfl) (by kernel_rfl))
    (by kernel_rfl) (by kernel_rfl) rfl (fun ds h => by
      match ds, h with
      | [d1, d2], _ => exact ⟨rfl, rfl, rfl⟩) rfl Try.underlying4 ?_
  intro W base args ds ps hval hA hlt hwt hsh
  rw [Try.params8] at hA hval
  obtain ⟨v0, vs0, d0, ds0, p0, q0, hargs, rfl, rfl, h0, r0⟩ := trodAll_cons hA
  obtain ⟨v1, vs1, d1, ds1, p1, q1, rfl, rfl, rfl, h1, r1⟩ := trodAll_cons r0
  obtain ⟨rfl, rfl, rfl⟩ := trodAll_nil r1
  obtain rfl : args = #[v0, v1] := by cases args; simp_all
  obtain ⟨a0, rfl, rfl, rfl, w0⟩ := open_string Try.underlying9 (hval 0 9 v0 rfl rfl) h0
  obtain ⟨a1, rfl, rfl, rfl, w1⟩ := open_string Try.underlying9 (hval 1 9 v1 rfl rfl) h1
  obtain ⟨m, hm⟩ := shaped_m W hsh
  -- WALK
  exact walk a0 a1 m W w0 w1 hm
theorem proved : Rows.TextBackSaid :=
  OpenClaim.holds_of_wide 8 Try.f8 rfl rfl rfl rfl rfl rfl rfl ⟨rfl, rfl, rfl, rfl, rfl⟩ rfl rfl rfl rfl rfl (by kernel_rfl) Try.func8 (by kernel_rfl)
    (of_decide_eq_true (by kernel_rfl)) (by unfold Func.isWrapper; first | (rw [if_pos (by decide +kernel)]; kernel_rfl) | (rw [if_neg (by decide +kernel)]; exact ⟨rfl, rfl⟩))
    (fun os started H enc _ => lifted os started H enc)
#print axioms proved
end Go.Proofs.Ytilmhlblilmcfaa.textBack
