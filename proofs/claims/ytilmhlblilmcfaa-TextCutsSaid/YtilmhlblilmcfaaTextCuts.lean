/-
  TextCuts: for every str and numbers the law returns true: a str has just this byte, these bounds and this slice. No condition.
-/
import Derived.Test.YtilmhlblilmcfaaTextEnv
namespace Go.Proofs.Ytilmhlblilmcfaa.textCuts
open Go.ChangeShapes Go.WideShapes Go.ChangeAt Go.RowKit
open Go.ChangeMaps (open_string)
set_option linter.unusedVariables false
set_option maxHeartbeats 1000000 in
theorem walk (s : ByteArray) (n f t : Int) (m : Int) (w : World) (ws : s.size ≤ maxLen) (wn : (Lit.int .i64 n).wf = true) (wf : (Lit.int .i64 f).wf = true) (wt : (Lit.int .i64 t).wf = true) (hm : w.cell? ⟨0, 0, none⟩ = some (.int .i64 m)) :
    Calls Try.prog 4 #[.string s, .int .i64 n, .int .i64 f, .int .i64 t] w fun e w' => e = .returned (.bool true) ∧ Below w.heap.size w w' := by
  have hw0 : 0 < w.heap.size := World.block_lt_of_cell? w _ hm
  obtain ⟨r1, e1, k1, k2⟩ := at_pair s f ws (int_bd wf).1
  obtain ⟨r2, e2, k3, k4⟩ := bounds_pair n f t (int_bd wn) (int_bd wf) (int_bd wt)
  obtain ⟨r3, k5, k6⟩ := slice_pair s f t ws (int_bd wf) (int_bd wt)
  have K1 := Lib.hid k1; have K2 := Lib.hid k2; have K3 := Lib.hid k3; have K4 := Lib.hid k4; have K5 := Lib.hid k5; have K6 := Lib.hid k6
  clear k1 k2 k3 k4 k5 k6
  go_enter Try.func4, Try.ntmps4
  go_wp2_with fail
  refine (K1.out _).mono ?_
  rintro e w1 ⟨rfl, c1⟩
  change Below _ _ _ at c1
  go_wp2_with fail
  refine (K2.out _).mono ?_
  rintro e w2 ⟨rfl, c2⟩
  replace c2 := c1.trans ((show Below _ _ _ from c2).mono c1.size)
  clear c1
  go_wp2_with fail
  refine (K3.out _).mono ?_
  rintro e w3 ⟨rfl, c3⟩
  replace c3 := c2.trans ((show Below _ _ _ from c3).mono c2.size)
  clear c2
  go_wp2_with fail
  refine (K4.out _).mono ?_
  rintro e w4 ⟨rfl, c4⟩
  replace c4 := c3.trans ((show Below _ _ _ from c4).mono c3.size)
  clear c3
  have hm4 : w4.cell? ⟨0, 0, none⟩ = some (.int .i64 m) := (c4.cell (p := ⟨0, 0, none⟩) hw0).trans hm
  go_wp2_with fail
  refine (said_r m _ hm4).mono ?_
  rintro e w5 ⟨rfl, c5⟩
  replace c5 := c4.trans ((show Below _ _ _ from c5).mono c4.size)
  clear c4 hm4
  go_wp2_with fail
  refine (K5.out _).mono ?_
  rintro e w6 ⟨rfl, c6⟩
  replace c6 := c5.trans ((show Below _ _ _ from c6).mono c5.size)
  clear c5
  go_wp2_with fail
  refine (K6.out _).mono ?_
  rintro e w7 ⟨rfl, c7⟩
  replace c7 := c6.trans ((show Below _ _ _ from c7).mono c6.size)
  clear c6
  go_wp2
  go_ret
  exact ⟨rfl, c7⟩
set_option maxRecDepth 100000 in
theorem lifted (os : Os) (started : os.Started) (H : Type) (enc : TypeId × Value → H) :
    ReturnsInHanded {} Try.checked os 4 .any (Rows.textCutsSpec.pre6 enc Try.prog Try.f4 Rows.textCutsRow.domain false) (Rows.textCutsSpec.post enc Try.prog Try.f4 false true false false) := by
  refine law_lift (C := Try.checked) own started (by kernel_rfl) Try.func4
    (ChangeSpec.witness6 (enc := enc) (C := Try.checked) false ⟨#[], #[.string ⟨#[]⟩, .int .i64 0, .int .i64 0, .int .i64 0], []⟩ 8 (by kernel_rfl) (by kernel_rfl) (by kernel_rfl) (by kernel_rfl))
    (by kernel_rfl) (by kernel_rfl) rfl (fun ds h => by
      match ds, h with
      | [d1, d2, d3, d4], _ => exact ⟨rfl, rfl, rfl⟩) rfl Try.underlying4 ?_
  intro W base args ds ps hval hA hlt hwt hsh
  rw [Try.params4] at hA hval
  obtain ⟨v0, vs0, d0, ds0, p0, q0, hargs, rfl, rfl, h0, r0⟩ := trodAll_cons hA
  obtain ⟨v1, vs1, d1, ds1, p1, q1, rfl, rfl, rfl, h1, r1⟩ := trodAll_cons r0
  obtain ⟨v2, vs2, d2, ds2, p2, q2, rfl, rfl, rfl, h2, r2⟩ := trodAll_cons r1
  obtain ⟨v3, vs3, d3, ds3, p3, q3, rfl, rfl, rfl, h3, r3⟩ := trodAll_cons r2
  obtain ⟨rfl, rfl, rfl⟩ := trodAll_nil r3
  obtain rfl : args = #[v0, v1, v2, v3] := by cases args; simp_all
  obtain ⟨a0, rfl, rfl, rfl, w0⟩ := open_string Try.underlying9 (hval 0 9 v0 rfl rfl) h0
  obtain ⟨a1, rfl, rfl, rfl, w1⟩ := open_int Try.underlying2 (hval 1 2 v1 rfl rfl) h1
  obtain ⟨a2, rfl, rfl, rfl, w2⟩ := open_int Try.underlying2 (hval 2 2 v2 rfl rfl) h2
  obtain ⟨a3, rfl, rfl, rfl, w3⟩ := open_int Try.underlying2 (hval 3 2 v3 rfl rfl) h3
  obtain ⟨m, hm⟩ := shaped_m W hsh
  -- WALK
  exact walk a0 a1 a2 a3 m W w0 w1 w2 w3 hm
theorem proved : Rows.TextCutsSaid :=
  OpenClaim.holds_of_wide 4 Try.f4 rfl rfl rfl rfl rfl rfl rfl ⟨rfl, rfl, rfl, rfl, rfl⟩ rfl rfl rfl rfl rfl (by kernel_rfl) Try.func4 (by kernel_rfl)
    (of_decide_eq_true (by kernel_rfl)) (by unfold Func.isWrapper; first | (rw [if_pos (by decide +kernel)]; kernel_rfl) | (rw [if_neg (by decide +kernel)]; exact ⟨rfl, rfl⟩))
    (fun os started H enc _ => lifted os started H enc)
#print axioms proved
end Go.Proofs.Ytilmhlblilmcfaa.textCuts
