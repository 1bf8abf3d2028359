/-
  TextBounds: for every three numbers the law returns true: bounds lie within a length, and are their own bounds. No condition.
-/
import Derived.Test.YtilmhlblilmcfaaText12
import Derived.Test.YtilmhlblilmcfaaFrame
namespace Go.Proofs.Ytilmhlblilmcfaa.textBounds
open Go.ChangeShapes Go.WideShapes Go.ChangeAt Go.RowKit
set_option linter.unusedVariables false
theorem own : ownKnob Try.prog.godebug = none := by kernel_rfl
theorem placeI_id (n i : Int) (h : 0 ≤ i) (h' : i ≤ n) : placeI n i = i := by
  unfold placeI; rw [if_neg (by omega), if_neg (by omega)]
theorem int_bd {a : Int} (h : (Lit.int .i64 a).wf = true) : -9223372036854775808 ≤ a ∧ a ≤ 9223372036854775807 := by
  simpa [Lit.wf, IntKind.min, IntKind.max, IntKind.signed, IntKind.bits] using h
theorem bounds_v (n f t L U : Int) (w : World) (b1 : -9223372036854775808 ≤ n ∧ n ≤ 9223372036854775807) (b2 : -9223372036854775808 ≤ f ∧ f ≤ 9223372036854775807) (b3 : -9223372036854775808 ≤ t ∧ t ≤ 9223372036854775807)
    (hL : placeI (max n 0) f = L) (hU : max (placeI (max n 0) f) (placeI (max n 0) t) = U) :
    Calls Try.prog 20 #[.int .i64 n, .int .i64 f, .int .i64 t] w fun e w' => e = .returned (.tuple #[.int .i64 L, .int .i64 U]) ∧ Below w.heap.size w w' := by
  refine (bounds_i n f t w b1.1 b1.2 b2.1 b2.2 b3.1 b3.2).mono fun e w' h => ?_
  rw [hU, hL] at h; exact h
set_option maxHeartbeats 1000000 in
theorem core (n f t L U : Int) (m : Int) (w : World) (b1 : -9223372036854775808 ≤ n ∧ n ≤ 9223372036854775807) (b2 : -9223372036854775808 ≤ f ∧ f ≤ 9223372036854775807) (b3 : -9223372036854775808 ≤ t ∧ t ≤ 9223372036854775807)
    (hL : placeI (max n 0) f = L) (hU : max (placeI (max n 0) f) (placeI (max n 0) t) = U) (h0 : 0 ≤ L) (h1 : L ≤ U) (h2 : 0 ≤ n ∧ U ≤ n ∨ n < 0 ∧ U = 0) (hm : w.cell? ⟨0, 0, none⟩ = some (.int .i64 m)) :
    Calls Try.prog 11 #[.int .i64 n, .int .i64 f, .int .i64 t] w fun e w' => e = .returned (.bool true) ∧ Below w.heap.size w w' := by
  have k1 := Lib.hid (fun (w : World) => bounds_v n f t L U w b1 b2 b3 hL hU)
  have k2 := Lib.hid (fun (w : World) => bounds_v n L U L U w b1 (by omega) (by omega) (placeI_id _ _ h0 (by omega)) (by rw [placeI_id _ _ h0 (by omega), placeI_id _ _ (by omega) (by omega)]; omega))
  have hw0 : 0 < w.heap.size := World.block_lt_of_cell? w _ hm
  have hf : f < 0 ∨ (if n < 0 then 0 else n) < f ∨ L = f := by
    rw [← hL]; unfold placeI; split <;> (repeat' split) <;> omega
  clear hL hU
  rcases h2 with ⟨h2, h3⟩ | ⟨h2, h3⟩
  · rw [if_neg (by omega)] at hf
    rcases hf with hf | hf | rfl
    all_goals
      go_enter Try.func11, Try.ntmps11
      go_wp2_with fail
      refine (k1.out _).mono ?_
      rintro e w1 ⟨rfl, c1⟩
      change Below _ _ _ at c1
      go_wp2_with fail
      refine (k2.out _).mono ?_
      rintro e w2 ⟨rfl, c2⟩
      replace c2 := c1.trans ((show Below _ _ _ from c2).mono c1.size)
      have hm2 : w2.cell? ⟨0, 0, none⟩ = some (.int .i64 m) := (c2.cell (p := ⟨0, 0, none⟩) hw0).trans hm
      clear c1
      go_wp2_with fail
      refine (said_i m _ hm2).mono ?_
      rintro e w3 ⟨rfl, c3⟩
      replace c3 := c2.trans ((show Below _ _ _ from c3).mono c2.size)
      clear c2 hm2
      go_wp2
      all_goals (go_ret; exact ⟨rfl, c3⟩)
  · rw [if_pos h2] at hf
    subst h3
    obtain rfl : L = 0 := by omega
    clear h0 h1
    rcases hf with hf | hf | rfl
    all_goals
      go_enter Try.func11, Try.ntmps11
      go_wp2_with fail
      refine (k1.out _).mono ?_
      rintro e w1 ⟨rfl, c1⟩
      change Below _ _ _ at c1
      go_wp2_with fail
      refine (k2.out _).mono ?_
      rintro e w2 ⟨rfl, c2⟩
      replace c2 := c1.trans ((show Below _ _ _ from c2).mono c1.size)
      have hm2 : w2.cell? ⟨0, 0, none⟩ = some (.int .i64 m) := (c2.cell (p := ⟨0, 0, none⟩) hw0).trans hm
      clear c1
      go_wp2_with fail
      refine (said_i m _ hm2).mono ?_
      rintro e w3 ⟨rfl, c3⟩
      replace c3 := c2.trans ((show Below _ _ _ from c3).mono c2.size)
      clear c2 hm2
      go_wp2
      all_goals (go_ret; exact ⟨rfl, c3⟩)
theorem walk (n f t : Int) (m : Int) (w : World) (wn : (Lit.int .i64 n).wf = true) (wf : (Lit.int .i64 f).wf = true) (wt : (Lit.int .i64 t).wf = true) (hm : w.cell? ⟨0, 0, none⟩ = some (.int .i64 m)) :
    Calls Try.prog 11 #[.int .i64 n, .int .i64 f, .int .i64 t] w fun e w' => e = .returned (.bool true) ∧ Below w.heap.size w w' := by
  have p1 := placeI_le (max n 0) f (by omega)
  have p2 := placeI_le (max n 0) t (by omega)
  exact core n f t _ _ m w (int_bd wn) (int_bd wf) (int_bd wt) rfl rfl (by omega) (by omega) (by omega) hm
theorem shaped_m (W : World) (h : W.ShapedOpen Try.prog) : ∃ m, W.cell? ⟨0, 0, none⟩ = some (.int .i64 m) :=
  cell_of_shapedOpen_int (g := 0) (t := 3) (zero := #[.int .i64 0]) h (of_decide_eq_true (by kernel_rfl)) (by kernel_rfl) rfl (by kernel_rfl) (by kernel_rfl) Try.underlying3
set_option maxRecDepth 100000 in
theorem lifted (os : Os) (started : os.Started) (H : Type) (enc : TypeId × Value → H) :
    ReturnsInHanded {} Try.checked os 11 .any (Rows.textBoundsSpec.pre6 enc Try.prog Try.f11 Rows.textBoundsRow.domain false) (Rows.textBoundsSpec.post enc Try.prog Try.f11 false true false false) := by
  refine law_lift (C := Try.checked) own started (by kernel_rfl) Try.func11
    (ChangeSpec.witness6 (enc := enc) (C := Try.checked) false ⟨#[], #[.int .i64 0, .int .i64 0, .int .i64 0], []⟩ 8 (by kernel_rfl) (by kernel_rfl) (by kernel_rfl) (by kernel_rfl))
    (by kernel_rfl) (by kernel_rfl) rfl (fun ds h => by
      match ds, h with
      | [d1, d2, d3], _ => exact ⟨rfl, rfl, rfl⟩) rfl Try.underlying4 ?_
  intro W base args ds ps hval hA hlt hwt hsh
  rw [Try.params11] at hA hval
  obtain ⟨v0, vs0, d0, ds0, p0, q0, hargs, rfl, rfl, h0, r0⟩ := trodAll_cons hA
  obtain ⟨v1, vs1, d1, ds1, p1, q1, rfl, rfl, rfl, h1, r1⟩ := trodAll_cons r0
  obtain ⟨v2, vs2, d2, ds2, p2, q2, rfl, rfl, rfl, h2, r2⟩ := trodAll_cons r1
  obtain ⟨rfl, rfl, rfl⟩ := trodAll_nil r2
  obtain rfl : args = #[v0, v1, v2] := by cases args; simp_all
  obtain ⟨a0, rfl, rfl, rfl, w0⟩ := open_int Try.underlying2 (hval 0 2 v0 rfl rfl) h0
  obtain ⟨a1, rfl, rfl, rfl, w1⟩ := open_int Try.underlying2 (hval 1 2 v1 rfl rfl) h1
  obtain ⟨a2, rfl, rfl, rfl, w2⟩ := open_int Try.underlying2 (hval 2 2 v2 rfl rfl) h2
  obtain ⟨m, hm⟩ := shaped_m W hsh
  exact walk a0 a1 a2 m W w0 w1 w2 hm
theorem proved : Rows.TextBoundsSaid :=
  OpenClaim.holds_of_wide 11 Try.f11 rfl rfl rfl rfl rfl rfl rfl ⟨rfl, rfl, rfl, rfl, rfl⟩ rfl rfl rfl rfl rfl (by kernel_rfl) Try.func11 (by kernel_rfl)
    (of_decide_eq_true (by kernel_rfl)) (by unfold Func.isWrapper; first | (rw [if_pos (by decide +kernel)]; kernel_rfl) | (rw [if_neg (by decide +kernel)]; exact ⟨rfl, rfl⟩))
    (fun os started H enc _ => lifted os started H enc)
#print axioms proved
end Go.Proofs.Ytilmhlblilmcfaa.textBounds
