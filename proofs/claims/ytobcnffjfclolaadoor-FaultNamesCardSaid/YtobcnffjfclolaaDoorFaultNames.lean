/-
  FaultNames: for any str the law returns true: the names are just these, and one has just this base, or none. No condition.
-/
import Derived.Test.YtobcnffjfclolaaDoorFaultP
import Derived.Test.YtobcnffjfclolaaDoorFaultB
import Derived.Test.YtobcnffjfclolaaDoorLaid
namespace Go.Proofs.YtobcnffjfclolaaDoor.faultNames
set_option linter.unusedSimpArgs false
open Go.ChangeShapes Go.WideShapes Go.ChangeAt Go.RowKit
open Go.ChangeMaps (open_string)
set_option linter.unusedVariables false
set_option maxRecDepth 100000 in
theorem walk (w : World) (s : ByteArray) (hG : GlobF w) : Calls Tryd.prog 3 #[.string s] w fun e W' => e = .returned (.bool true) ∧ Below w.heap.size w W' := by
  have HG := Lib.hid hG
  have M := Lib.hid (raised_ok (Sep.start (Below.refl w.heap.size w)) hG)
  clear hG
  go_enter Tryd.func3, Tryd.ntmps3
  go_wp2_with fail
  refine M.out.mono ?_
  rintro e w1 ⟨rfl, S⟩
  clear M
  have M := Lib.hid (fnames_ok S HG.out)
  clear S
  go_wp2_with fail
  refine M.out.mono ?_
  rintro e w2 ⟨a, c, rfl, S⟩
  clear M
  have M := Lib.hid (rnames_ok w2)
  have HS := Lib.hid S
  clear S
  go_wp2_with fail
  refine M.out.mono ?_
  rintro e w3 ⟨rfl, hw3⟩
  have S := HS.out.alloc (.cells namesV 9)
  rw [← hw3] at S
  clear M HS hw3
  obtain ⟨q, hq⟩ : ∃ gx_, (w2.heap.size) = gx_ := ⟨_, rfl⟩
  rw [hq] at S
  try rw [hq]
  clear hq
  have hrow := S.row 1 rfl
  obtain ⟨g, rfl⟩ : ∃ g, a = some ⟨g, 0, none⟩ := by
    rcases hrow.shape with ⟨h1, h2⟩ | ⟨g, cap, h1, _⟩
    · exact absurd (congrArg List.length h2) (by rw [takeN_len]; decide)
    · exact ⟨g, (Value.slice.inj h1).1⟩
  have ha : ∀ j, j < 17 → w3.cell? ⟨g, j, none⟩ = some (.string (nameF j)) := fun j hj => by
    have hx : (takeN 17)[j]? = some (nameF j) := by unfold takeN; rw [List.getElem?_map, List.getElem?_range hj]; rfl
    have := hrow.cell (f := strCell) (m := 1) (fun _ => rfl) rfl hx (j := 0) (u := .string (nameF j)) rfl
    simpa using this
  have M := Lib.hid (ref_same g q 17 c 17 nameF w3 ha (fun j hj => cellAt (S.box (b := q) 0 rfl) j (namesV_get hj)) (by omega))
  have HS := Lib.hid S
  clear S hrow ha
  go_wp2_with fail
  refine M.out.mono ?_
  rintro e w4 ⟨rfl, m, hm⟩
  have S := HS.out.later (W' := w4) (by rw [hm]; exact Below.drewN (Below.refl _ _) m)
  clear M HS hm
  have M := Lib.hid (fbase_ok S HG.out s)
  clear S
  go_wp2_with fail
  refine M.out.mono ?_
  rintro e w5 ⟨rfl, S⟩
  clear M
  have M := Lib.hid (rbase_ok w5 s)
  have HS := Lib.hid S.below
  clear S
  go_wp2_with fail
  refine M.out.mono ?_
  rintro e w6 ⟨rfl, rfl⟩
  clear M
  go_wp2
  go_ret
  exact ⟨rfl, HS.out⟩
theorem witness_row (os : Os) {H : Type} (enc : TypeId × Value → H) :
    (OpenSpec.ofChange Rows.faultNamesSpec).preRow enc Tryd.prog Tryd.f3 Rows.faultNamesRow.domain false Rows.faultNamesRow.laid ((laidWorld os).forCall (fun _ _ => 0) ⟨#[], #[.string ⟨#[]⟩], []⟩).memory #[.string ⟨#[]⟩] := by
  have hw : (DataW.whole enc Tryd.prog ((laidWorld os).forCall (fun _ _ => 0) ⟨#[], #[.string ⟨#[]⟩], []⟩).memory Tryd.f3.params.toList (OpenSpec.ofChange Rows.faultNamesSpec).vars false #[Value.string ⟨#[]⟩].toList 8).map (fun x => (x.1, x.2.1)) =
      some ([.lit (.string [])], []) := by kernel_rfl
  obtain ⟨⟨x1, x2, x3⟩, hx, hx1⟩ := Option.map_eq_some_iff.1 hw
  simp only [Prod.mk.injEq] at hx1
  obtain ⟨rfl, rfl⟩ := hx1
  exact OpenSpec.preRow_of_cond 8 hx (by kernel_rfl) (fun k hk => by cases hk) (by kernel_rfl) (laid_met os _)
set_option maxRecDepth 100000 in
theorem lifted (os : Os) (started : os.Started) (H : Type) (enc : TypeId × Value → H) (F : Stop.Interp) :
    ReturnsInHanded {} Tryd.checked os 3 .any ((OpenSpec.ofChange Rows.faultNamesSpec).preRow enc Tryd.prog Tryd.f3 Rows.faultNamesRow.domain false Rows.faultNamesRow.laid) (((OpenSpec.ofChange Rows.faultNamesSpec).at F).post enc Tryd.prog Tryd.f3 false true false false) := by
  refine law_lift_laid (C := Tryd.checked) own started (by kernel_rfl) Tryd.func3
    (witness_row_atRef (enc := enc) (C := Tryd.checked) false (laidWorld os) #[.string ⟨#[]⟩] rfl (by kernel_rfl) (by kernel_rfl) (by kernel_rfl) (witness_row os enc))
    (by kernel_rfl) (by kernel_rfl) rfl (fun ds h => by
      match ds, h with
      | [d1], _ => exact ⟨rfl, rfl, rfl⟩) rfl Tryd.underlying4 ?_
  intro W base args ds ps hval hA hlt hwt hL hsh
  rw [Tryd.params3] at hA hval
  obtain ⟨v0, vs0, d0, ds0, p0, q0, hargs, rfl, rfl, h0, r0⟩ := trodAll_cons hA
  obtain ⟨rfl, rfl, rfl⟩ := trodAll_nil r0
  obtain rfl : args = #[v0] := by cases args; simp_all
  obtain ⟨s, rfl, rfl, rfl, hs⟩ := open_string Tryd.underlying9 (hval 0 9 v0 rfl rfl) h0
  exact walk W s (globF hL hsh)
theorem said : Rows.FaultNamesSaid :=
  OpenClaim.holds_of_cond 3 Tryd.f3 rfl rfl rfl rfl rfl rfl rfl ⟨rfl, rfl, rfl, rfl, rfl⟩ rfl rfl rfl rfl rfl (by kernel_rfl) Tryd.func3 (by kernel_rfl)
    (of_decide_eq_true (by kernel_rfl)) (by unfold Func.isWrapper; first | (rw [if_pos (by decide +kernel)]; kernel_rfl) | (rw [if_neg (by decide +kernel)]; exact ⟨rfl, rfl⟩))
    (fun os started H enc _ F => by rw [OpenClaim.pre_eq_preRow]; exact lifted os started H enc F)
theorem plain (f : FuncId) (fn : Func) (hf : Tryd.pinned.checked.prog.funcNamed "krait/kraitlaw15.FaultNames" = some f) (hfn : Tryd.pinned.checked.prog.funcs[f]? = some fn) :
    false = Tryd.pinned.checked.prog.looks [] ∧ ∀ (j : Nat) t, fn.params[j]? = some t → Tryd.pinned.checked.prog.wantsStandIn t = false := by
  obtain rfl : f = 3 := Option.some.inj ((show Tryd.prog.funcNamed "krait/kraitlaw15.FaultNames" = some 3 by kernel_rfl).symm.trans hf) |>.symm
  obtain rfl : fn = Tryd.f3 := (Option.some.inj (Tryd.func3.symm.trans hfn)).symm
  refine ⟨by kernel_rfl, fun j t ht => ?_⟩
  rw [Tryd.params3] at ht
  obtain rfl : t = 9 := by simpa using Array.mem_of_getElem? ht
  exact (show Tryd.prog.wantsStandIn 9 = false by kernel_rfl)
theorem proved : Rows.FaultNamesCardSaid :=
  Claim7.holds_tied_plain_at .later [] _ _ _ _ said (fun _ h => by cases h) (by kernel_rfl) (fun _ h => by cases h) faultNames_row_tie rfl ⟨rfl, rfl⟩ (by kernel_rfl) rfl plain (by kernel_rfl)
#print axioms proved
end Go.Proofs.YtobcnffjfclolaaDoor.faultNames
