/-
  TextTwice: for every str and two numbers the law returns true: a str so many times, and so many times, is as many times as both, together. No condition.
-/
import Derived.Test.YtilmhlblilmcfaaTextEnv
namespace Go.Proofs.Ytilmhlblilmcfaa.textTwice
open Go.ChangeShapes Go.WideShapes Go.ChangeAt Go.RowKit
open Go.ChangeMaps (open_string)
set_option linter.unusedVariables false
def mem : ByteArray := ⟨#[77, 101, 109, 111, 114, 121, 69, 114, 114, 111, 114]⟩
theorem rep_small (s : ByteArray) (n : Int) (w : World) (hn : 0 ≤ n) (hs : s.size ≤ 60) (h : s.size * n.toNat ≤ 65536) :
    Calls Try.prog 15 #[.string s, .int .i64 n] w (Ret (.tuple #[.string ⟨(Lib.repeatL s.data.toList n.toNat).toArray⟩, .string ⟨#[]⟩]) w) := by
  by_cases h0 : n < 1 ∨ s.size = 0
  · have e : Lib.repeatL s.data.toList n.toNat = [] := by
      rcases h0 with h0 | h0
      · have : n.toNat = 0 := by omega
        rw [this]; rfl
      · have : s.data.toList = [] := List.length_eq_zero_iff.1 h0
        rw [this]; exact Lib.repeatL_nil _
    rw [e]; exact ret_same (repeat_none s n w h0)
  · refine repeat_ok s n w (by omega) (by unfold maxLen; omega) (by omega) ?_
    refine (Int.le_ediv_iff_mul_le (by omega)).2 ?_
    have e : ((s.size * n.toNat : Nat) : Int) = (s.size : Int) * n := by rw [Int.natCast_mul, Int.toNat_of_nonneg (by omega)]
    rw [Int.mul_comm]; omega
theorem rep_big (s : ByteArray) (n : Int) (w : World) (hn : 0 ≤ n) (hs : s.size ≤ 60) (h : 65536 < s.size * n.toNat) :
    Calls Try.prog 15 #[.string s, .int .i64 n] w (Ret (.tuple #[.string ⟨#[]⟩, .string ⟨#[77, 101, 109, 111, 114, 121, 69, 114, 114, 111, 114]⟩]) w) := by
  have h0 : 0 < s.size := by rcases Nat.eq_zero_or_pos s.size with e | e; · rw [e, Nat.zero_mul] at h; omega
                             · exact e
  have h1 : 1 ≤ n := by
    rcases Int.lt_or_le n 1 with e | e
    · have : n.toNat = 0 := by omega
      rw [this, Nat.mul_zero] at h; omega
    · exact e
  refine ret_same (repeat_big s n w h1 (by unfold maxLen; omega) h0 ?_)
  refine Int.lt_of_not_ge fun hh => ?_
  have := (Int.le_ediv_iff_mul_le (by omega)).1 hh
  have e : ((s.size * n.toNat : Nat) : Int) = (s.size : Int) * n := by rw [Int.natCast_mul, Int.toNat_of_nonneg (by omega)]
  rw [Int.mul_comm] at this; omega
theorem rep_size (s : ByteArray) (n : Nat) : (ByteArray.mk (Lib.repeatL s.data.toList n).toArray).size = s.size * n := by
  have : (Lib.repeatL s.data.toList n).length = n * s.data.toList.length := Lib.repeatL_length _ _
  have e : s.data.toList.length = s.size := rfl
  simp only [ByteArray.size, List.size_toArray]; rw [this, e, Nat.mul_comm]; rfl
set_option maxHeartbeats 1000000 in
theorem far (s : ByteArray) (n k : Int) (m : Int) (w : World) (ws : s.size ≤ maxLen) (h : n < 0 ∨ 0 ≤ n ∧ (k < 0 ∨ 0 ≤ k ∧ (1000 < n ∨ n ≤ 1000 ∧ (1000 < k ∨ k ≤ 1000 ∧ 60 < s.size)))) (hm : w.cell? ⟨0, 0, none⟩ = some (.int .i64 m)) :
    Calls Try.prog 12 #[.string s, .int .i64 n, .int .i64 k] w fun e w' => e = .returned (.bool true) ∧ Below w.heap.size w w' := by
  unfold maxLen at ws
  rcases h with h | ⟨h, h1 | ⟨h1, h2 | ⟨h2, h3 | ⟨h3, h4⟩⟩⟩⟩
  all_goals
    go_enter Try.func12, Try.ntmps12
    go_wp2_with fail
    refine (said_r m _ hm).mono ?_
    rintro e w3 ⟨rfl, c3⟩
    change Below _ _ _ at c3
    go_wp2
    go_ret
    exact ⟨rfl, c3⟩
set_option maxHeartbeats 1000000 in
theorem near (s : ByteArray) (n k : Int) (m : Int) (w : World) (h1 : 0 ≤ n) (h2 : 0 ≤ k) (h3 : n ≤ 1000) (h4 : k ≤ 1000) (h5 : s.size ≤ 60) (hm : w.cell? ⟨0, 0, none⟩ = some (.int .i64 m)) :
    Calls Try.prog 12 #[.string s, .int .i64 n, .int .i64 k] w fun e w' => e = .returned (.bool true) ∧ Below w.heap.size w w' := by
  have hw0 : 0 < w.heap.size := World.block_lt_of_cell? w _ hm
  have b1 : s.size * n.toNat ≤ 60 * 1000 := Nat.mul_le_mul h5 (by omega)
  have b2 : s.size * k.toNat ≤ 60 * 1000 := Nat.mul_le_mul h5 (by omega)
  have e3 : (n + k).toNat = n.toNat + k.toNat := by omega
  have K1 := Lib.hid (fun w => rep_small s n w h1 h5 (by omega))
  have K2 := Lib.hid (fun w => rep_small s k w h2 h5 (by omega))
  have s1 := rep_size s n.toNat
  have s2 := rep_size s k.toNat
  obtain ⟨r, e, K3, K4⟩ : ∃ r e : ByteArray, Hid (∀ w, Calls Try.prog 15 #[.string s, .int .i64 (n + k)] w (Ret (.tuple #[.string r, .string e]) w)) ∧
      Hid (∀ w, Calls Try.prog 13 #[.string ⟨(Lib.repeatL s.data.toList n.toNat).toArray⟩, .string ⟨(Lib.repeatL s.data.toList k.toNat).toArray⟩] w (Ret (.tuple #[.string r, .string e]) w)) := by
    by_cases hb : s.size * (n + k).toNat ≤ 65536
    · refine ⟨_, _, fun w => rep_small s (n + k) w (by omega) h5 hb, fun w => ?_⟩
      have := ret_same (concat_ok ⟨(Lib.repeatL s.data.toList n.toNat).toArray⟩ ⟨(Lib.repeatL s.data.toList k.toNat).toArray⟩ w (by rw [s1, s2]; rw [e3, Nat.mul_add] at hb; exact hb))
      have ee : (ByteArray.mk (Lib.repeatL s.data.toList n.toNat).toArray) ++ (ByteArray.mk (Lib.repeatL s.data.toList k.toNat).toArray) = ⟨(Lib.repeatL s.data.toList (n + k).toNat).toArray⟩ := by
        rw [e3, Lib.repeatL_add]; apply ByteArray.ext; simp
      rw [ee] at this; exact this
    · refine ⟨_, _, fun w => rep_big s (n + k) w (by omega) h5 (by omega), fun w => ?_⟩
      exact ret_same (concat_big _ _ w (by rw [s1, s2]; rw [e3, Nat.mul_add] at hb; omega) (by rw [s1]; unfold maxLen; omega) (by rw [s2]; unfold maxLen; omega))
  clear s1 s2 e3 b1 b2
  go_enter Try.func12, Try.ntmps12
  go_wp2_with fail
  refine (K1.out _).mono ?_
  rintro e w1 ⟨rfl, c1⟩
  change Below _ _ _ at c1
  go_wp2_with fail
  refine (K2.out _).mono ?_
  rintro e w2 ⟨rfl, c2⟩
  replace c2 := c1.trans ((show Below _ _ _ from c2).mono c1.size)
  clear c1
  go_wp2_with fail
  refine (K3.out _).mono ?_
  rintro e w3 ⟨rfl, c3⟩
  replace c3 := c2.trans ((show Below _ _ _ from c3).mono c2.size)
  clear c2
  go_wp2_with fail
  refine (K4.out _).mono ?_
  rintro e w4 ⟨rfl, c4⟩
  replace c4 := c3.trans ((show Below _ _ _ from c4).mono c3.size)
  clear c3
  have hm4 : w4.cell? ⟨0, 0, none⟩ = some (.int .i64 m) := (c4.cell (p := ⟨0, 0, none⟩) hw0).trans hm
  go_wp2_with fail
  refine (said_r m _ hm4).mono ?_
  rintro e w5 ⟨rfl, c5⟩
  replace c5 := c4.trans ((show Below _ _ _ from c5).mono c4.size)
  clear c4 hm4
  go_wp2
  go_ret
  exact ⟨rfl, c5⟩
theorem walk (s : ByteArray) (n k : Int) (m : Int) (w : World) (ws : s.size ≤ maxLen) (wn : (Lit.int .i64 n).wf = true) (wk : (Lit.int .i64 k).wf = true) (hm : w.cell? ⟨0, 0, none⟩ = some (.int .i64 m)) :
    Calls Try.prog 12 #[.string s, .int .i64 n, .int .i64 k] w fun e w' => e = .returned (.bool true) ∧ Below w.heap.size w w' := by
  by_cases h : 0 ≤ n ∧ 0 ≤ k ∧ n ≤ 1000 ∧ k ≤ 1000 ∧ s.size ≤ 60
  · exact near s n k m w h.1 h.2.1 h.2.2.1 h.2.2.2.1 h.2.2.2.2 hm
  · exact far s n k m w ws (by omega) hm
set_option maxRecDepth 100000 in
theorem lifted (os : Os) (started : os.Started) (H : Type) (enc : TypeId × Value → H) :
    ReturnsInHanded {} Try.checked os 12 .any (Rows.textTwiceSpec.pre6 enc Try.prog Try.f12 Rows.textTwiceRow.domain false) (Rows.textTwiceSpec.post enc Try.prog Try.f12 false true false false) := by
  refine law_lift (C := Try.checked) own started (by kernel_rfl) Try.func12
    (ChangeSpec.witness6 (enc := enc) (C := Try.checked) false ⟨#[], #[.string ⟨#[]⟩, .int .i64 0, .int .i64 0], []⟩ 8 (by kernel_rfl) (by kernel_rfl) (by kernel_rfl) (by kernel_rfl))
    (by kernel_rfl) (by kernel_rfl) rfl (fun ds h => by
      match ds, h with
      | [d1, d2, d3], _ => exact ⟨rfl, rfl, rfl⟩) rfl Try.underlying4 ?_
  intro W base args ds ps hval hA hlt hwt hsh
  rw [Try.params12] at hA hval
  obtain ⟨v0, vs0, d0, ds0, p0, q0, hargs, rfl, rfl, h0, r0⟩ := trodAll_cons hA
  obtain ⟨v1, vs1, d1, ds1, p1, q1, rfl, rfl, rfl, h1, r1⟩ := trodAll_cons r0
  obtain ⟨v2, vs2, d2, ds2, p2, q2, rfl, rfl, rfl, h2, r2⟩ := trodAll_cons r1
  obtain ⟨rfl, rfl, rfl⟩ := trodAll_nil r2
  obtain rfl : args = #[v0, v1, v2] := by cases args; simp_all
  obtain ⟨a0, rfl, rfl, rfl, w0⟩ := open_string Try.underlying9 (hval 0 9 v0 rfl rfl) h0
  obtain ⟨a1, rfl, rfl, rfl, w1⟩ := open_int Try.underlying2 (hval 1 2 v1 rfl rfl) h1
  obtain ⟨a2, rfl, rfl, rfl, w2⟩ := open_int Try.underlying2 (hval 2 2 v2 rfl rfl) h2
  obtain ⟨m, hm⟩ := shaped_m W hsh
  -- WALK
  exact walk a0 a1 a2 m W w0 w1 w2 hm
theorem proved : Rows.TextTwiceSaid :=
  OpenClaim.holds_of_wide 12 Try.f12 rfl rfl rfl rfl rfl rfl rfl ⟨rfl, rfl, rfl, rfl, rfl⟩ rfl rfl rfl rfl rfl (by kernel_rfl) Try.func12 (by kernel_rfl)
    (of_decide_eq_true (by kernel_rfl)) (by unfold Func.isWrapper; first | (rw [if_pos (by decide +kernel)]; kernel_rfl) | (rw [if_neg (by decide +kernel)]; exact ⟨rfl, rfl⟩))
    (fun os started H enc _ => lifted os started H enc)
#print axioms proved
end Go.Proofs.Ytilmhlblilmcfaa.textTwice
