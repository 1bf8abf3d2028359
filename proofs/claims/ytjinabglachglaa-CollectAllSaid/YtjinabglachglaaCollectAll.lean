/-
  CollectAll: what is reached, what is garbage, and what is freed, is as the reference has it.
-/
import Derived.Test.YtjinabglachglaaAlike
import Derived.Test.YtjinabglachglaaFrame
import Derived.Test.YtjinabglachglaaBytes
namespace Go.Proofs.Ytjinabglachglaa.collectAll
set_option linter.unusedSimpArgs false
open Go.ChangeShapes Go.WideShapes Go.ChangeAt Go.RowKit
set_option linter.unusedVariables false
-- PLAIN
set_option maxRecDepth 100000 in
set_option maxHeartbeats 6400000 in
theorem walk (w : World) (kv ev hv : Value) (g : GraphM) (hg : SeesG w kv ev hv g) :
    Calls Try.prog 11 #[.agg #[kv, ev, hv]] w fun e W' => e = .returned (.bool true) ∧ Below w.heap.size w W' := by
  have HG := Lib.hid hg
  obtain ⟨ka, kc, rfl, -, -, -⟩ := hg.kinds
  obtain ⟨ea, ec, rfl, -, -, -⟩ := hg.edges
  obtain ⟨da, dc, rfl, -, -, -⟩ := hg.held
  obtain ⟨bx, hbx⟩ : ∃ bx, w.heap.size = bx := ⟨_, rfl⟩
  have S0 := (Sep.start (Below.refl w.heap.size w)).alloc (.cells #[.slice ka g.kinds.length kc, .slice ea g.edges.length ec, .slice da g.held.length dc] 28)
  have K := Lib.hid (shown_ok (w.alloc (.cells #[.slice ka g.kinds.length kc, .slice ea g.edges.length ec, .slice da g.held.length dc] 28)))
  rw [hbx] at S0
  replace S0 := Lib.hid S0
  have HBX := Lib.hid hbx
  clear hg
  go_enter Try.func11, Try.ntmps11
  go_wp2_with fail
  refine K.out.mono ?_
  rintro e w1 ⟨rfl, b1⟩
  have S1 := S0.out.later b1
  have c0 := cellAt (S1.box 0 rfl) 0 (v := .slice ka g.kinds.length kc) rfl
  have c1 := cellAt (S1.box 0 rfl) 1 (v := .slice ea g.edges.length ec) rfl
  have c2 := cellAt (S1.box 0 rfl) 2 (v := .slice da g.held.length dc) rfl
  have C := Lib.hid (graph_ok S1 _ _ _ g HG.out)
  clear S0 S1 K b1 hbx
  go_wp2_with fail
  refine C.out.mono ?_
  rintro e w2 ⟨h, y, rfl, S2⟩
  clear c0 c1 c2 C
  have c0 := cellAt (S2.box 2 rfl) 0 (v := .slice ka g.kinds.length kc) rfl
  have c1 := cellAt (S2.box 2 rfl) 1 (v := .slice ea g.edges.length ec) rfl
  have c2 := cellAt (S2.box 2 rfl) 2 (v := .slice da g.held.length dc) rfl
  have C := Lib.hid (held_ok S2 (.slice ka g.kinds.length kc) (.slice ea g.edges.length ec) _ rfl g.held HG.out.held)
  clear S2
  go_wp2_with fail
  refine C.out.mono ?_
  rintro e w3 ⟨lv, rfl, S3⟩
  clear c0 c1 c2 C
  have hL := held_len g.held
  obtain ⟨L, hLL⟩ : ∃ L, heldM g.held = L := ⟨_, rfl⟩
  rw [hLL] at S3 hL
  have HL := Lib.hid hL
  clear hLL hL
  obtain ⟨la, lc, rfl⟩ := (S3.row 0 rfl).form
  have FT := Lib.hid (madeM_fit g)
  obtain ⟨Hm, hHm⟩ : ∃ Hm, madeM g = Hm := ⟨_, rfl⟩
  rw [hHm] at S3 FT
  have F := FT.out
  have hN1 : (100 : Nat) ≤ 1000000 := by omega
  have R1 := HeapM.reached_ok F.G (by omega) L
  have R2 := HeapM.garbage_ok F.G (by omega) L
  have C := Lib.hid (alike_ok S3 2 1 rfl rfl F hN1)
  have HR := Lib.hid (And.intro R1 R2)
  clear hHm R1 R2 S3
  go_wp2_with fail
  refine (C.out).mono ?_
  rintro e w4 ⟨rfl, S4⟩
  have C2 := Lib.hid (S4.reachedN 2 rfl F (by omega) _ L (S4.row 0 rfl).sees' (by have := HL.out; omega))
  clear C S4
  go_wp2_with fail
  refine (C2.out).mono ?_
  rintro e w5 ⟨av, rfl, S5⟩
  obtain ⟨aa, ac, rfl⟩ := (S5.row 0 rfl).form
  have C3 := Lib.hid (yReached S5 2 rfl F hN1 la lc L (fun W' S' => (S'.row 1 rfl).sees') (by have := HL.out; omega))
  clear C2 S5
  go_wp2_with fail
  refine (C3.out).mono ?_
  rintro e w6 ⟨bv, rfl, S6⟩
  obtain ⟨ba, bc, rfl⟩ := (S6.row 0 rfl).form
  have C4 := S6.sameN 1 0 rfl rfl HR.out.1 HR.out.1
  obtain ⟨A, hA⟩ : ∃ x, (Hm.reachedM L) = x := ⟨_, rfl⟩
  rw [hA] at C4 ⊢
  rw [show decide (A = A) = true by simp] at C4
  have S7 := Lib.hid S6
  replace C4 := Lib.hid C4
  clear C3 S6 S7 hA
  go_wp2_with fail
  refine (C4.out).mono ?_
  rintro e w7 ⟨rfl, S8⟩
  replace S8 := S8.tail.tail
  have C5 := Lib.hid (S8.garbageN 2 rfl F (by omega) _ L (S8.row 0 rfl).sees' (by have := HL.out; omega))
  clear C4 S8
  go_wp2_with fail
  refine (C5.out).mono ?_
  rintro e w8 ⟨cv, rfl, S9⟩
  obtain ⟨ca, cc, rfl⟩ := (S9.row 0 rfl).form
  have C6 := Lib.hid (yGarbage S9 2 rfl F hN1 la lc L (fun W' S' => (S'.row 1 rfl).sees') (by have := HL.out; omega))
  clear C5 S9
  go_wp2_with fail
  refine (C6.out).mono ?_
  rintro e w9 ⟨dv, rfl, S10⟩
  obtain ⟨da2, dc2, rfl⟩ := (S10.row 0 rfl).form
  have C7 := S10.sameN 1 0 rfl rfl HR.out.2 HR.out.2
  obtain ⟨B, hB⟩ : ∃ x, (Hm.garbageM L) = x := ⟨_, rfl⟩
  rw [hB] at C7 ⊢
  rw [show decide (B = B) = true by simp] at C7
  replace C7 := Lib.hid C7
  clear C6 S10 hB
  go_wp2_with fail
  refine (C7.out).mono ?_
  rintro e w10 ⟨rfl, S11⟩
  replace S11 := S11.tail.tail
  have C8 := Lib.hid (alike_ok S11 2 1 rfl rfl F hN1)
  clear C7 S11
  go_wp2_with fail
  refine (C8.out).mono ?_
  rintro e w11 ⟨rfl, S12⟩
  have C9 := Lib.hid (collect_ok S12 2 h rfl F.G (by omega) F.K la lc L (by have := HL.out; omega) (fun H' W' S' => (S'.row 0 rfl).sees') (fun W' => ArgS.row 0 (by decide) rfl))
  clear C8 S12
  go_wp2_with fail
  refine (C9.out).mono ?_
  rintro e w12 ⟨rfl, S13⟩
  try simp only [List.set_cons_succ, List.set_cons_zero] at S13
  have C10 := Lib.hid (yCollect S13.swap F hN1 la lc L (fun W' H' S' => (S'.row 1 rfl).sees') (by have := HL.out; omega))
  clear C9 S13
  have F1 := F.collect (E := L)
  obtain ⟨p, hp⟩ : ∃ x, ((Hm.objs.length : Int) - (Hm.collect L).objs.length) = x := ⟨_, rfl⟩
  obtain ⟨q, hq⟩ : ∃ x, ((Hm.live 6 : Int) - (Hm.collect L).live 6) = x := ⟨_, rfl⟩
  rw [hp, hq] at C10
  rw [hp, hq]
  obtain ⟨H1, hH1⟩ : ∃ x, (Hm.collect L) = x := ⟨_, rfl⟩
  rw [hH1] at C10 F1
  have HF1 := Lib.hid F1
  have b1 : (p == p) = true := by simp
  have b2 : (q == q) = true := by simp
  clear hp hq hH1 F1
  go_wp2_with fail
  refine (C10.out).mono ?_
  rintro e w13 ⟨rfl, S14⟩
  have C11 := Lib.hid (alike_ok S14 2 0 rfl rfl HF1.out hN1)
  clear C10 S14
  go_wp2_with fail
  refine (C11.out).mono ?_
  rintro e w14 ⟨rfl, S15⟩
  have BL := Lib.hid S15.below
  clear C11 S15
  go_wp2
  go_ret
  exact ⟨rfl, BL.out⟩
set_option maxRecDepth 100000 in
theorem lifted (os : Os) (started : os.Started) (H : Type) (enc : TypeId × Value → H) :
    ReturnsInHanded {} Try.checked os 11 .any (Rows.collectAllSpec.pre6 enc Try.prog Try.f11 Rows.collectAllRow.domain false) (Rows.collectAllSpec.post enc Try.prog Try.f11 false true false false) := by
  refine law_lift (C := Try.checked) own started (by kernel_rfl) Try.func11
    (ChangeSpec.witness6 (enc := enc) (C := Try.checked) false ⟨#[], #[.agg #[.slice none 0 0, .slice none 0 0, .slice none 0 0]], []⟩ 8 (by kernel_rfl) (by kernel_rfl) (by kernel_rfl) (by kernel_rfl))
    (by kernel_rfl) (by kernel_rfl) rfl (fun ds h => by
      match ds, h with
      | [d1], _ => exact ⟨rfl, rfl, rfl⟩) rfl Try.underlying4 ?_
  intro W base args ds ps hval hA hlt hwt hsh
  rw [Try.params11] at hA hval
  obtain ⟨v0, vs0, d0, ds0, p0, q0, hargs, rfl, rfl, h0, r0⟩ := trodAll_cons hA
  obtain ⟨rfl, rfl, rfl⟩ := trodAll_nil r0
  obtain rfl : args = #[v0] := by cases args; simp_all
  obtain ⟨cs0, rfl, hsz0⟩ := okWide_struct Try.underlying28 (hval 0 28 v0 rfl rfl)
  obtain ⟨fuel0, hf0⟩ := h0
  obtain ⟨kv0, ev0, hv0, gr0, e0, sg0⟩ := open_graph (cs := cs0.toList) hf0
  obtain rfl : cs0 = [kv0, ev0, hv0].toArray := by rw [← e0]
  -- WALK
  exact walk W _ _ _ gr0 sg0
theorem proved : Rows.CollectAllSaid :=
  OpenClaim.holds_of_wide 11 Try.f11 rfl rfl rfl rfl rfl rfl rfl ⟨rfl, rfl, rfl, rfl, rfl⟩ rfl rfl rfl rfl rfl (by kernel_rfl) Try.func11 (by kernel_rfl)
    (of_decide_eq_true (by kernel_rfl)) (by unfold Func.isWrapper; first | (rw [if_pos (by decide +kernel)]; kernel_rfl) | (rw [if_neg (by decide +kernel)]; exact ⟨rfl, rfl⟩))
    (fun os started H enc _ => lifted os started H enc)
#print axioms proved
end Go.Proofs.Ytjinabglachglaa.collectAll
