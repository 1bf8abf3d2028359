/-
  TextJoins: for every two strs and number the law returns true: two strs, and one so many times, make just what the reference says. No condition.
-/
import Derived.Test.YtilmhlblilmcfaaTextEnv
namespace Go.Proofs.Ytilmhlblilmcfaa.textJoins
open Go.ChangeShapes Go.WideShapes Go.ChangeAt Go.RowKit
open Go.ChangeMaps (open_string)
set_option linter.unusedVariables false
set_option maxHeartbeats 1000000 in
theorem walk (a b : ByteArray) (n : Int) (m : Int) (w : World) (wa : a.size ≤ maxLen) (wb : b.size ≤ maxLen) (wn : (Lit.int .i64 n).wf = true) (hm : w.cell? ⟨0, 0, none⟩ = some (.int .i64 m)) :
    Calls Try.prog 3 #[.string a, .string b, .int .i64 n] w fun e w' => e = .returned (.bool true) ∧ Below w.heap.size w w' := by
  have hw0 : 0 < w.heap.size := World.block_lt_of_cell? w _ hm
  obtain ⟨r1, e1, k1, k2⟩ := concat_pair a b wa wb
  obtain ⟨r2, e2, k3, k4⟩ := repeat_pair a n wa
  have K1 := Lib.hid k1; have K2 := Lib.hid k2; have K3 := Lib.hid k3; have K4 := Lib.hid k4
  clear k1 k2 k3 k4
  go_enter Try.func3, Try.ntmps3
  go_wp2_with fail
  refine (K1.out _).mono ?_
  rintro e w1 ⟨rfl, c1⟩
  change Below _ _ _ at c1
  go_wp2_with fail
  refine (K2.out _).mono ?_
  rintro e w2 ⟨rfl, c2⟩
  replace c2 := c1.trans ((show Below _ _ _ from c2).mono c1.size)
  clear c1
  go_wp2_with fail
  refine (K3.out _).mono ?_
  rintro e w3 ⟨rfl, c3⟩
  replace c3 := c2.trans ((show Below _ _ _ from c3).mono c2.size)
  clear c2
  go_wp2_with fail
  refine (K4.out _).mono ?_
  rintro e w4 ⟨rfl, c4⟩
  replace c4 := c3.trans ((show Below _ _ _ from c4).mono c3.size)
  clear c3
  have hm4 : w4.cell? ⟨0, 0, none⟩ = some (.int .i64 m) := (c4.cell (p := ⟨0, 0, none⟩) hw0).trans hm
  go_wp2_with fail
  refine (said_r m _ hm4).mono ?_
  rintro e w5 ⟨rfl, c5⟩
  replace c5 := c4.trans ((show Below _ _ _ from c5).mono c4.size)
  clear c4 hm4
  go_wp2
  go_ret
  exact ⟨rfl, c5⟩
set_option maxRecDepth 100000 in
theorem lifted (os : Os) (started : os.Started) (H : Type) (enc : TypeId × Value → H) :
    ReturnsInHanded {} Try.checked os 3 .any (Rows.textJoinsSpec.pre6 enc Try.prog Try.f3 Rows.textJoinsRow.domain false) (Rows.textJoinsSpec.post enc Try.prog Try.f3 false true false false) := by
  refine law_lift (C := Try.checked) own started (by kernel_rfl) Try.func3
    (ChangeSpec.witness6 (enc := enc) (C := Try.checked) false ⟨#[], #[.string ⟨#[]⟩, .string ⟨#[]⟩, .int .i64 0], []⟩ 8 (by kernel_rfl) (by kernel_rfl) (by kernel_rfl) (by kernel_rfl))
    (by kernel_rfl) (by kernel_rfl) rfl (fun ds h => by
      match ds, h with
      | [d1, d2, d3], _ => exact ⟨rfl, rfl, rfl⟩) rfl Try.underlying4 ?_
  intro W base args ds ps hval hA hlt hwt hsh
  rw [Try.params3] at hA hval
  obtain ⟨v0, vs0, d0, ds0, p0, q0, hargs, rfl, rfl, h0, r0⟩ := trodAll_cons hA
  obtain ⟨v1, vs1, d1, ds1, p1, q1, rfl, rfl, rfl, h1, r1⟩ := trodAll_cons r0
  obtain ⟨v2, vs2, d2, ds2, p2, q2, rfl, rfl, rfl, h2, r2⟩ := trodAll_cons r1
  obtain ⟨rfl, rfl, rfl⟩ := trodAll_nil r2
  obtain rfl : args = #[v0, v1, v2] := by cases args; simp_all
  obtain ⟨a0, rfl, rfl, rfl, w0⟩ := open_string Try.underlying9 (hval 0 9 v0 rfl rfl) h0
  obtain ⟨a1, rfl, rfl, rfl, w1⟩ := open_string Try.underlying9 (hval 1 9 v1 rfl rfl) h1
  obtain ⟨a2, rfl, rfl, rfl, w2⟩ := open_int Try.underlying2 (hval 2 2 v2 rfl rfl) h2
  obtain ⟨m, hm⟩ := shaped_m W hsh
  -- WALK
  exact walk a0 a1 a2 m W w0 w1 w2 hm
theorem proved : Rows.TextJoinsSaid :=
  OpenClaim.holds_of_wide 3 Try.f3 rfl rfl rfl rfl rfl rfl rfl ⟨rfl, rfl, rfl, rfl, rfl⟩ rfl rfl rfl rfl rfl (by kernel_rfl) Try.func3 (by kernel_rfl)
    (of_decide_eq_true (by kernel_rfl)) (by unfold Func.isWrapper; first | (rw [if_pos (by decide +kernel)]; kernel_rfl) | (rw [if_neg (by decide +kernel)]; exact ⟨rfl, rfl⟩))
    (fun os started H enc _ => lifted os started H enc)
#print axioms proved
end Go.Proofs.Ytilmhlblilmcfaa.textJoins
