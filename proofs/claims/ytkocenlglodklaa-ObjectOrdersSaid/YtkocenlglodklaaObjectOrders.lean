/-
  ObjectOrders: for any bases (twelve classes, of four bases each), the law returns true: classes that are made one after the other have the orders of C3, and one is made just if there is one. No condition.
-/
import Derived.Test.YtkocenlglodklaaShowC
import Derived.Test.YtkocenlglodklaaOrdersM
import Derived.Test.YtkocenlglodklaaLocal
import Derived.Test.YtkocenlglodklaaIn14
namespace Go.Proofs.Ytkocenlglodklaa.objectOrders
set_option linter.unusedSimpArgs false
open Go.ChangeShapes Go.WideShapes Go.ChangeAt Go.RowKit
open Go.ChangeMaps (open_string)
set_option linter.unusedVariables false
section
variable {w W : World} {Rs : List Res} {h : Nat} {H : HeapM}
theorem ko_live (S : Sep w Rs W) (i : Nat) (hi : Rs[i]? = some (heapR h H)) {N : Nat} (G : H.Good N) (hN : N ≤ 4000000) (n : Nat) (hn : H.live 0 = n) :
    Calls Try.prog 38 #[.pointer (some ⟨h, 0, none⟩), .int .i64 0] W fun e W' => e = .returned (.int .i64 n) ∧ Sep w Rs W' :=
  (S.live i hi G hN 0).mono fun e W' ⟨e1, e2, _⟩ => ⟨by rw [e1, hn], e2⟩
theorem ko_ord (S : Sep w Rs W) (i : Nat) (hi : Rs[i]? = some (heapR h H)) {N : Nat} (G : H.Good N) (hN : N ≤ 4000000) (v : V) (L : List V) (hL : L = H.order v) :
    Calls Try.prog 15 #[.pointer (some ⟨h, 0, none⟩), .agg #[.int .i64 v.kind, .int .i64 v.n, .string v.s]] W fun e W' => ∃ a c, e = .returned (.slice a L.length c) ∧ Sep w (valsR (.slice a L.length c) L :: Rs) W' := by
  refine (order_list S i hi G hN v).mono fun e W' ⟨sv, h1, h2⟩ => ?_
  rw [← hL] at h2
  obtain ⟨a, c, hsv⟩ := (h2.row 0 rfl).form
  rw [hsv] at h1 h2
  exact ⟨a, c, h1, h2⟩
theorem ko_make (S : Sep w Rs W) (i : Nat) (hi : Rs[i]? = some (heapR h ⟨[], 0⟩)) :
    Calls Try.prog 19 #[.pointer (some ⟨h, 0, none⟩), .int .i64 3, .string ⟨#[]⟩, .int .i64 0, .slice none 0 0] W fun e W' => e = .returned (.agg #[.int .i64 4, .int .i64 1, .string ⟨#[]⟩]) ∧ Sep w (Rs.set i (heapR h ((⟨[], 0⟩ : HeapM).add spO))) W' :=
  S.make i hi good_empty (by omega) spO (.slice none 0 0) (seesV_nil W) (by simp [spO]) rfl (by simp [spO]) (by simp [spO])
theorem ko_class (S : Sep w Rs W) (i : Nat) (hi : Rs[i]? = some (heapR h H)) {N : Nat} (F : H.Fit N) (ba : Option Addr) (bc : Nat) (bases : List V)
    (hb : ∀ W', Sep w Rs W' → SeesV W' (.slice ba bases.length bc) bases) (hz : bases.length * (N + 2) + bases.length + N ≤ 900000) (r : Option HeapM) (hr : H.mkClass ⟨#[67]⟩ (by decide) bases r1O = r) :
    Calls Try.prog 28 #[.pointer (some ⟨h, 0, none⟩), .string ⟨#[67]⟩, .slice ba bases.length bc, .agg #[.int .i64 4, .int .i64 1, .string ⟨#[]⟩]] W (ClassDone w Rs i h H r) := by
  have := class_ok S i hi F ⟨#[67]⟩ (by decide) ba bc bases hb r1O hz
  rw [hr] at this
  exact this
end
set_option maxRecDepth 100000 in
set_option maxHeartbeats 12800000 in
theorem walk (w : World) (sB sH : Value) (B : SomeIn w sB sH) :
    Calls Try.prog 8 #[.agg #[sB, sH]] w fun e W' => e = .returned (.bool true) ∧ Below w.heap.size w W' := by
  obtain ⟨ba, bc, ivs, rows0, ha, hc, has, rfl, rfl, h1, h2, h3⟩ := B
  have hsl : (ivs.length : Int) ≤ 9223372036854775807 := by
    obtain ⟨_, _, e, q1, q2, _⟩ := h1 w (Below.refl _ _)
    unfold maxLen at q2; omega
  have HIN := Lib.hid (And.intro h1 h2)
  obtain ⟨b, hb⟩ : ∃ gx_, (w.heap.size) = gx_ := ⟨_, rfl⟩
  have S := (Sep.start (Below.refl w.heap.size w)).alloc (.cells #[.slice ba ivs.length bc, .slice ha has.length hc] 25)
  rw [hb] at S
  replace S : Sep w (someB b (.slice ba ivs.length bc) (.slice ha has.length hc) :: []) _ := S
  have M0 := Lib.hid ((shown_ok (w.alloc (.cells #[.slice ba ivs.length bc, .slice ha has.length hc] 25))).mono fun e W1 (hh : _ ∧ _) => (⟨hh.1, S.later hh.2⟩ : _ ∧ Sep w (someB b (.slice ba ivs.length bc) (.slice ha has.length hc) :: []) W1))
  clear S h1 h2 h3
  go_enter Try.func8, Try.ntmps8
  go_wp2_with fail
  try simp only [hb]
  refine M0.out.mono ?_
  rintro e w1 ⟨rfl, S⟩
  clear M0 hb
  have M := Lib.hid S.new
  clear S
  go_wp2_with fail
  refine M.out.mono ?_
  rintro e w2 ⟨h, rfl, S, -⟩
  clear M
  have M := Lib.hid (ko_make S 0 rfl)
  clear S
  go_wp2_with fail
  refine M.out.mono ?_
  rintro e w3 ⟨rfl, S⟩
  clear M
  obtain ⟨q, hq⟩ : ∃ gx_, (w3.heap.size) = gx_ := ⟨_, rfl⟩
  have S2 := ((S.alloc (.cells #[.int .i64 4, .int .i64 1, .string ⟨#[]⟩] 33)).madeRow V.cells 3 33).madeRow slCellN 1 23
  simp only [World.size_alloc, hq] at S2
  have S3 : Hid (Sep w (slxR (.slice (some ⟨q + 1 + 1, 0, none⟩) 0 0) [] :: valsR (.slice (some ⟨q + 1, 0, none⟩) 0 0) [] :: heapR h ((⟨[], 0⟩ : HeapM).add spO) :: ([] ++ (valB q r1O :: someB b (.slice ba ivs.length bc) (.slice ha has.length hc) :: []))) _) := Lib.hid (S2.perm (.cons _ (.cons _ (.swap _ _ _))))
  clear S S2
  go_wp2
  try simp only [hq]
  clear hq
  go_loopw [6, 7, 8] (fun mv rv iv wr => ∃ (i : Nat) (H : HeapM) (made : List V) (rws O : List (List Int)) (Ns : List Res) (svx : List SlV), i ≤ 12 ∧ iv = .int .i64 i ∧ OInv H made rws O i r1O ∧ RowsIn (Sep w (Ns ++ (valB q r1O :: someB b (.slice ba ivs.length bc) (.slice ha has.length hc) :: []))) svx rws ∧ Sep w (slxR rv svx :: valsR mv made :: heapR h H :: (Ns ++ (valB q r1O :: someB b (.slice ba ivs.length bc) (.slice ha has.length hc) :: []))) wr) (fun _ _ iv _ => 12 - (intOf iv).toNat)
  case atStart => exact ⟨0, _, [], [], [], [], [], by omega, rfl, OInv.start, ⟨rfl, by simp⟩, S3.out⟩
  case round =>
    clear S3
    obtain ⟨i, H, made, rws, O, Ns, svx, hi12, rfl, M, hri, S⟩ := hrel
    obtain ⟨ra, rc, hrv⟩ := (S.row 0 rfl).form
    obtain ⟨ma, mc, hmv⟩ := (S.row 1 rfl).form
    rw [hrv, hmv] at S
    rw [hrv, hmv]
    clear hrv hmv
    have FB : Hid (∀ W (X : List Res), Sep w (X ++ (Ns ++ (valB q r1O :: someB b (.slice ba ivs.length bc) (.slice ha has.length hc) :: []))) W → Sep w (valB q r1O :: someB b (.slice ba ivs.length bc) (.slice ha has.length hc) :: []) W) := Lib.hid fun W X S => S.sub ((List.sublist_append_right Ns _).trans (List.sublist_append_right X _))
    have FN : Hid (∀ W (X : List Res), Sep w (X ++ (Ns ++ (valB q r1O :: someB b (.slice ba ivs.length bc) (.slice ha has.length hc) :: []))) W → Sep w (Ns ++ (valB q r1O :: someB b (.slice ba ivs.length bc) (.slice ha has.length hc) :: [])) W) := Lib.hid fun W X S => S.sub (List.sublist_append_right X _)
    have cB := cellAt ((FB.out _ [_, _, _] S).box (b := b) 1 rfl) 0 (v := .slice ba ivs.length bc) rfl
    have hi12' : (i : Int) ≤ 12 := by omega
    have HM := Lib.hid M
    have HRI := Lib.hid hri
    clear hri
    by_cases hgo : i < ivs.length ∧ i < 12
    · obtain ⟨hgo1, hgo2⟩ := hgo
      have g1 : (i : Int) < ivs.length := by omega
      have g2 : (i : Int) < 12 := by omega
      have HG := Lib.hid (And.intro hgo1 hgo2)
      obtain ⟨sv, hsv⟩ : ∃ sv, ivs[i]? = some sv := ⟨ivs[i], by simp [hgo1]⟩
      obtain ⟨r0, hr⟩ : ∃ r, rows0[i]? = some r := ⟨rows0[i]'(by rw [← HIN.out.2.1]; exact hgo1), by simp⟩
      have HRW : Hid (∀ W', Below w.heap.size w W' → SeesN W' sv.val r0) := Lib.hid (HIN.out.2.2 i sv r0 hsv hr)
      obtain ⟨ra0, rn0, rc0⟩ := sv
      have hrn : rn0 = r0.length := by
        obtain ⟨_, _, e, _⟩ := HRW.out _ S.below
        cases e; rfl
      subst hrn
      have hrl : (r0.length : Int) ≤ 9223372036854775807 := by
        obtain ⟨_, _, e, q1, q2, _⟩ := HRW.out _ S.below
        unfold maxLen at q2; omega
      obtain ⟨g0, o0, rfl, cR⟩ := (HIN.out.1 _ S.below).slot hsv
      have CB : Hid (∀ W', Below w.heap.size w W' → W'.cell? ⟨g0, o0 + i, none⟩ = some (.slice ra0 r0.length rc0)) := Lib.hid fun W' hW => by
        obtain ⟨g1, o1, e, cR⟩ := (HIN.out.1 _ hW).slot hsv
        cases e
        exact cR
      have S4 := (S.madeRow V.cells 3 33).madeRow intCell 1 3
      obtain ⟨bb, hbb⟩ : ∃ gx_, (wr.heap.size) = gx_ := ⟨_, rfl⟩
      simp only [World.size_alloc, hbb] at S4
      replace S4 : Hid (Sep w (intsA (.slice (some ⟨bb + 1, 0, none⟩) 0 0) [] :: valsR (.slice (some ⟨bb, 0, none⟩) 0 0) (basesM made []) :: slxR (.slice ra svx.length rc) svx :: valsR (.slice ma made.length mc) made :: heapR h H :: (Ns ++ (valB q r1O :: someB b (.slice (some ⟨g0, o0, none⟩) ivs.length bc) (.slice ha has.length hc) :: []))) _) := Lib.hid S4
      have hml : (made.length : Int) ≤ 12 := by have := M.len; omega
      clear S cR hsv hr hgo1 hgo2 hi12 M
      go_wp2
      try simp only [hbb]
      clear hbb cB
      go_loopw [9, 10, 11] (fun bv wv jv wr => ∃ (j : Nat) (r : List Int), j ≤ 4 ∧ jv = .int .i64 j ∧ r.length ≤ j ∧ (∀ x ∈ r, 0 ≤ x ∧ x < (made.length : Int)) ∧ Sep w (intsA wv r :: valsR bv (basesM made r) :: slxR (.slice ra svx.length rc) svx :: valsR (.slice ma made.length mc) made :: heapR h H :: (Ns ++ (valB q r1O :: someB b (.slice (some ⟨g0, o0, none⟩) ivs.length bc) (.slice ha has.length hc) :: []))) wr) (fun _ _ jv _ => 4 - (intOf jv).toNat)
      case atStart => exact ⟨0, [], by omega, rfl, by simp, by simp, S4.out⟩
      case round =>
        clear S4
        obtain ⟨j, r, hj4, rfl, hrj, hrb, S⟩ := hrel
        obtain ⟨wa, wc', hwv⟩ := (S.row 0 rfl).form
        obtain ⟨ya, yc, hyv⟩ := (S.row 1 rfl).form
        have hbl : (basesM made r).length = r.length := by unfold basesM; simp
        rw [hwv, hyv] at S
        rw [hwv, hyv]
        clear hwv hyv
        have cB := cellAt ((FB.out _ [_, _, _, _, _] S).box (b := b) 1 rfl) 0 (v := .slice (some ⟨g0, o0, none⟩) ivs.length bc) rfl
        have cR := CB.out _ S.below
        have hj4' : (j : Int) ≤ 4 := by omega
        obtain ⟨c, hc'⟩ : ∃ gx_, (decide (j < r0.length ∧ j < 4 ∧ 0 < made.length)) = gx_ := ⟨_, rfl⟩
        have HC := Lib.hid hc'
        have HJ := Lib.hid (And.intro hj4 (And.intro hrj (And.intro hrb hbl)))
        clear hj4 hrj hrb hc' hbl
        have HS := Lib.hid S
        clear S
        go_upto_region 14 with fail
        go_cut [59] from 43 to 84 (fun s59 wx => s59 = .bool c ∧ wx = wr)
        case first =>
          have HC' := HC.out
          by_cases a1 : j < r0.length
          · have b1 : (j : Int) < r0.length := by omega
            by_cases a2 : j < 4
            · have b2 : (j : Int) < 4 := by omega
              by_cases a3 : 0 < made.length
              · have b3 : (0 : Int) < made.length := by omega
                obtain rfl : c = true := by rw [← HC']; simp [a1, a2, a3]
                clear a1 a2 HC' HC
                go_wp2_with fail
                go_meet
                exact ⟨rfl, rfl⟩
              · have b3 : made.length = 0 := by omega
                obtain rfl : c = false := by rw [← HC']; simp [b3]
                have b4 : (made.length : Int) ≤ 0 := by omega
                clear a1 a2 a3 HC' HC
                go_wp2_with fail
                go_meet
                exact ⟨rfl, rfl⟩
            · have b2 : (4 : Int) ≤ j := by omega
              obtain rfl : c = false := by rw [← HC']; simp [a2]
              clear a1 a2 HC' HC
              go_wp2_with fail
              go_meet
              exact ⟨rfl, rfl⟩
          · have b1 : (r0.length : Int) ≤ j := by omega
            obtain rfl : c = false := by rw [← HC']; simp [a1]
            clear a1 HC' HC
            go_wp2_with fail
            go_meet
            exact ⟨rfl, rfl⟩
        case rest =>
          obtain ⟨rfl, rfl⟩ := hcut
          cases c with
          | true =>
            obtain ⟨a1, a2, a3⟩ := of_decide_eq_true HC.out
            obtain ⟨x, hx⟩ : ∃ x, r0[j]? = some x := ⟨r0[j], by simp [a1]⟩
            obtain ⟨_, _, e0, p1, p2, p3⟩ := HRW.out _ HS.out.below
            cases e0
            obtain ⟨g, o, rfl, hcell⟩ : ∃ g o, ra0 = some ⟨g, o, none⟩ ∧ ∀ i n, r0[i]? = some n → wc.cell? ⟨g, o + i, none⟩ = some (.int .i64 n) := by
              rcases p3 with hh | hh
              · subst hh; simp at a1
              · exact hh
            have cx := hcell j x hx
            have b1 : (j : Int) < r0.length := by omega
            have hkm : pickN made.length x < made.length := Nat.mod_lt _ a3
            have hnum := pick_num made.length x
            obtain ⟨k, hk⟩ : ∃ gx_, (pickN made.length x) = gx_ := ⟨_, rfl⟩
            rw [hk] at hkm hnum
            obtain ⟨p, hp⟩ : ∃ p, made[k]? = some p := ⟨made[k], by simp [hkm]⟩
            have hkl : (k : Int) < made.length := by omega
            have hl0 : ((made.length : Int) == 0) = false := by rw [beq_eq_false_iff_ne]; omega
            have hl1 : ¬ made.length = 0 := by omega
            have hbn : basesM made (r ++ [(k : Int)]) = basesM made r ++ [p] := by
              unfold basesM
              rw [List.map_append, List.map_cons, List.map_nil, Int.toNat_natCast, hp]; rfl
            have HP := Lib.hid (And.intro a2 (And.intro hkm (And.intro hp hbn)))
            have S2 := HS.out.alloc (.cells #[.int .i64 k] 3)
            have hone := Lib.hid (sees_one (f := intCell) (m := 1) (y := (k : Int)) (heapAllocNew wc (.cells #[.int .i64 k] 3)) rfl)
            replace S2 := Lib.hid S2
            clear a1 a2 a3 hx hcell p1 p2 p3 hkm hk hp hbn HS
            go_wp2_with (at_builtin; refine wpList_append_rows rfl _ _ 23 3 rfl Try.underlying23 _ 8 info_intA rfl (by decide) (by decide) (fun _ => rfl) intCell_one S2.out 1 rfl rfl _ [(k : Int)] rfl hone.out (by have := HJ.out.2.1; have := HJ.out.1; simp; omega) ?_)
            intro va vc w5 S3
            replace S3 : Sep w (intsA (.slice va (r.length + [(k : Int)].length) vc) (r ++ [(k : Int)]) :: valsR (.slice ya (basesM made r).length yc) (basesM made r) :: slxR (.slice ra svx.length rc) svx :: valsR (.slice ma made.length mc) made :: heapR h H :: (Ns ++ (valB q r1O :: someB b (.slice (some ⟨g0, o0, none⟩) ivs.length bc) (.slice ha has.length hc) :: []))) w5 := S3.tail
            obtain ⟨_, _, e0, p1, p2, p3⟩ := (S3.row 3 rfl).sees'
            cases e0
            obtain ⟨g2, o2, rfl, hcell⟩ : ∃ g o, ma = some ⟨g, o, none⟩ ∧ ∀ i v, made[i]? = some v → w5.cell? ⟨g, o + i * 3, none⟩ = some (.int .i64 v.kind) ∧ w5.cell? ⟨g, o + i * 3 + 1, none⟩ = some (.int .i64 v.n) ∧ w5.cell? ⟨g, o + i * 3 + 2, none⟩ = some (.string v.s) := by
              rcases p3 with hh | hh
              · subst hh; simp at hl1
              · exact hh
            obtain ⟨t0, t1, t2⟩ := hcell k p HP.out.2.2.1
            have S4 := S3.alloc (.cells #[.int .i64 p.kind, .int .i64 p.n, .string p.s] 33)
            have hone2 := Lib.hid (sees_one (f := V.cells) (m := 3) (y := p) (heapAllocNew w5 (.cells #[.int .i64 p.kind, .int .i64 p.n, .string p.s] 33)) rfl)
            replace S4 := Lib.hid S4
            clear S2 S3 hone hcell p1 p2 p3 cx cB cR hnum
            go_wp2_with (at_builtin; refine wpList_append_rows rfl _ _ 29 33 rfl Try.underlying29 _ 32 info_val rfl (by decide) (by decide) V.cells_len (by intro p u hu; simp [V.cells] at hu; rcases hu with rfl | rfl | rfl <;> rfl) S4.out 2 rfl rfl _ [p] rfl hone2.out (by have := HJ.out.2.2.2; have := HJ.out.2.1; have := HJ.out.1; simp; omega) ?_)
            intro za zc w6 S5
            have S6 := Lib.hid S5.tail
            clear S4 S5 hone2 t0 t1 t2
            go_wp2
            refine ⟨⟨j + 1, r ++ [(k : Int)], by have := HP.out.1; omega, by go_num, by have := HJ.out.2.1; simp; omega, fun y hy => ?_, by rw [HP.out.2.2.2]; exact S6.out⟩, by have := HP.out.1; simp [intOf]; omega⟩
            rcases List.mem_append.1 hy with hh | hh
            · exact HJ.out.2.2.1 y hh
            · simp at hh; subst hh; have := HP.out.2.1; omega
          | false =>
            have hi12 := HG.out.2
            have hlast := HM.out.last
            have hlen := HM.out.len
            have hn : okI (H.last + 1) := okI_of ⟨by omega, by omega⟩
            have hr4 : r.length ≤ 4 := by have := HJ.out.2.1; have := HJ.out.1; omega
            obtain ⟨lv, hlv⟩ : ∃ lv, H.live 0 = lv := ⟨_, rfl⟩
            have HLV := Lib.hid hlv
            have hlvb : (lv : Int) ≤ 1000000 := by
              have := HM.out.fit.G.wt
              rw [← hlv]
              have h2 : H.live 0 ≤ H.objs.length := List.length_filter_le _ _
              have h3 : H.objs.length ≤ H.weight := by unfold HeapM.weight; omega
              omega
            have ML := Lib.hid (ko_live HS.out 4 rfl HM.out.fit.G (by omega) lv HLV.out)
            clear HS cB cR hlv
            go_wp2_with fail
            refine ML.out.mono ?_
            rintro e w5 ⟨rfl, S⟩
            clear ML
            replace S : Sep w (intsA (.slice wa r.length wc') r :: valsR (.slice ya (basesM made r).length yc) (basesM made r) :: slxR (.slice ra svx.length rc) svx :: valsR (.slice ma made.length mc) made :: heapR h H :: (Ns ++ (valB q r1O :: someB b (.slice (some ⟨g0, o0, none⟩) ivs.length bc) (.slice ha has.length hc) :: []))) w5 := S
            have cQ := (FB.out _ [_, _, _, _, _] S).box (b := q) 0 rfl
            have d0 := cellAt cQ 0 (v := .int .i64 4) rfl
            have d1 := cellAt cQ 1 (v := .int .i64 1) rfl
            have d2 := cellAt cQ 2 (v := .string ⟨#[]⟩) rfl
            have hz : (basesM made r).length * (60 * i + 10 + 2) + (basesM made r).length + (60 * i + 10) ≤ 900000 := by
              have h1 := HJ.out.2.2.2
              have h4 : (basesM made r).length * (60 * i + 10 + 2) ≤ 4 * 800 := Nat.mul_le_mul (by omega) (by omega)
              omega
            rcases HM.out.next HG.out.2 HJ.out.2.2.1 hr4 ⟨#[67]⟩ (by decide) hn with ⟨hmk, hall⟩ | ⟨H', O', hmk, hall, M', hlive, hord, hrng⟩
            · have MC := Lib.hid (ko_class S 4 rfl HM.out.fit ya yc (basesM made r) (fun W' T => (T.row 1 rfl).sees') hz none hmk)
              have HALL := Lib.hid hall
              have HR4 := Lib.hid hr4
              clear S cQ hz hmk hall hi12 hlast hlen hr4
              go_wp2_with fail
              refine MC.out.mono ?_
              rintro e w6 ⟨rfl, S⟩
              clear MC d0 d1 d2
              obtain ⟨x, hx⟩ : ∃ gx_, (w6.heap.size) = gx_ := ⟨_, rfl⟩
              have S2 := ((S.alloc (.cells #[.int .i64 0, .int .i64 0, .string ⟨#[]⟩] 33)).alloc (.cells #[.string typeError, .int .i64 0, .int .i64 0, .string ⟨#[]⟩, .bool false] 45)).madeRow slCellN 1 23
              simp only [World.size_alloc, hx] at S2
              replace S2 : Sep w (slxR (.slice (some ⟨x + 1 + 1, 0, none⟩) 0 0) [] :: boxR (x + 1) (.cells #[.string typeError, .int .i64 0, .int .i64 0, .string ⟨#[]⟩, .bool false] 45) :: boxR x (.cells #[.int .i64 0, .int .i64 0, .string ⟨#[]⟩] 33) :: intsA (.slice wa r.length wc') r :: valsR (.slice ya (basesM made r).length yc) (basesM made r) :: slxR (.slice ra svx.length rc) svx :: valsR (.slice ma made.length mc) made :: heapR h H :: (Ns ++ (valB q r1O :: someB b (.slice (some ⟨g0, o0, none⟩) ivs.length bc) (.slice ha has.length hc) :: []))) _ := S2
              have hsx := Lib.hid ((S2.row 5 rfl).seesR (f := slCellN) (m := 1) (fun _ => rfl))
              have HXL : Hid (svx.length ≤ 12) := Lib.hid (by have := HRI.out.1; have := HM.out.rl; have := HM.out.len; have := HG.out.2; omega)
              replace S2 := Lib.hid S2
              clear S
              go_wp2_with (first | (simp only [hx]; at_builtin; refine wpList_append_rows rfl _ _ 22 23 rfl Try.underlying22 _ 24 info_slx rfl (by decide) (by decide) (fun _ => rfl) slCellN_one S2.out 0 rfl rfl _ svx rfl hsx.out (by have := HXL.out; simp; omega) ?_) | (at_builtin; refine wpList_append_rows rfl _ _ 22 23 rfl Try.underlying22 _ 24 info_slx rfl (by decide) (by decide) (fun _ => rfl) slCellN_one S2.out 0 rfl rfl _ svx rfl hsx.out (by have := HXL.out; simp; omega) ?_))
              try simp only [hx]
              clear hx
              intro va vc w7 S3
              try simp only [List.length_nil, Nat.zero_add, List.nil_append] at S3
              try simp only [List.length_nil, Nat.zero_add]
              replace S3 : Sep w (slxR (.slice va svx.length vc) svx :: boxR (x + 1) (.cells #[.string typeError, .int .i64 0, .int .i64 0, .string ⟨#[]⟩, .bool false] 45) :: boxR x (.cells #[.int .i64 0, .int .i64 0, .string ⟨#[]⟩] 33) :: intsA (.slice wa r.length wc') r :: valsR (.slice ya (basesM made r).length yc) (basesM made r) :: slxR (.slice ra svx.length rc) svx :: valsR (.slice ma made.length mc) made :: heapR h H :: (Ns ++ (valB q r1O :: someB b (.slice (some ⟨g0, o0, none⟩) ivs.length bc) (.slice ha has.length hc) :: []))) w7 := S3
              have S4 := S3.alloc (.cells #[.slice wa r.length wc'] 23)
              have hone := Lib.hid (sees_one (f := slCellN) (m := 1) (y := ((wa, r.length, wc') : SlV)) (heapAllocNew w7 (.cells #[.slice wa r.length wc'] 23)) rfl)
              replace S4 := Lib.hid S4
              clear S2 S3 hsx
              go_wp2_with (at_builtin; refine wpList_append_rows rfl _ _ 22 23 rfl Try.underlying22 _ 24 info_slx rfl (by decide) (by decide) (fun _ => rfl) slCellN_one S4.out 1 rfl rfl _ [(wa, r.length, wc')] rfl hone.out (by have := HXL.out; simp; omega) ?_)
              intro vb vd w8 S5
              try simp only [List.length_cons, List.length_nil, Nat.zero_add] at S5
              try simp only [List.length_cons, List.length_nil, Nat.zero_add]
              replace S5 : Sep w (slxR (.slice vb (svx.length + 1) vd) (svx ++ [(wa, r.length, wc')]) :: boxR (x + 1) (.cells #[.string typeError, .int .i64 0, .int .i64 0, .string ⟨#[]⟩, .bool false] 45) :: boxR x (.cells #[.int .i64 0, .int .i64 0, .string ⟨#[]⟩] 33) :: intsA (.slice wa r.length wc') r :: valsR (.slice ya (basesM made r).length yc) (basesM made r) :: slxR (.slice ra svx.length rc) svx :: valsR (.slice ma made.length mc) made :: heapR h H :: (Ns ++ (valB q r1O :: someB b (.slice (some ⟨g0, o0, none⟩) ivs.length bc) (.slice ha has.length hc) :: []))) w8 := S5.tail
              have MA := all_ok S5 vb vd (svx ++ [(wa, r.length, wc')]) (rws ++ [r]) (fun W' T => by rw [List.length_append]; exact (T.row 0 rfl).seesR (f := slCellN) (m := 1) (fun _ => rfl)) ((HRI.out.mono fun W' T => FN.out _ [_, _, _, _, _, _, _, _] T).snoc fun W' T => seesN_R ((T.row 3 rfl).seesR (f := intCell) (m := 1) (fun _ => rfl))) (by have := HM.out.rl; have := HM.out.len; have := HG.out.2; simp; omega) (fun y hy => by
                rcases List.mem_append.1 hy with hh | hh
                · have := HM.out.short y hh; omega
                · simp at hh; subst hh; have := HR4.out; omega)
              rw [HALL.out] at MA
              simp only [List.length_append, List.length_cons, List.length_nil, Nat.zero_add] at MA
              replace MA := Lib.hid MA
              clear S4 S5 hone
              go_wp2_with fail
              refine MA.out.mono ?_
              rintro e w9 ⟨rfl, S⟩
              clear MA
              have EZ : ∀ W, (binOp .eql 45 (excN typeError) excZ).run Try.prog W = .ok (.bool false) W := fun W => by go_simp
              have e0 := cellAt (S.box (b := x + 1) 1 rfl) 0 (v := .string typeError) rfl
              have e1 := cellAt (S.box (b := x + 1) 1 rfl) 1 (v := .int .i64 0) rfl
              have e2 := cellAt (S.box (b := x + 1) 1 rfl) 2 (v := .int .i64 0) rfl
              have e3 := cellAt (S.box (b := x + 1) 1 rfl) 3 (v := .string ⟨#[]⟩) rfl
              have e4 := cellAt (S.box (b := x + 1) 1 rfl) 4 (v := .bool false) rfl
              have ML := Lib.hid (ko_live S 7 rfl HM.out.fit.G (by have := HG.out.2; omega) lv HLV.out)
              clear S
              go_wp2_with fail
              refine ML.out.mono ?_
              rintro e w10 ⟨rfl, S⟩
              clear ML EZ
              clear e0 e1 e2 e3 e4
              replace S : Sep w (slxR (.slice vb (svx.length + 1) vd) (svx ++ [(wa, r.length, wc')]) :: boxR (x + 1) (.cells #[.string typeError, .int .i64 0, .int .i64 0, .string ⟨#[]⟩, .bool false] 45) :: boxR x (.cells #[.int .i64 0, .int .i64 0, .string ⟨#[]⟩] 33) :: intsA (.slice wa r.length wc') r :: valsR (.slice ya (basesM made r).length yc) (basesM made r) :: slxR (.slice ra svx.length rc) svx :: valsR (.slice ma made.length mc) made :: heapR h H :: (Ns ++ (valB q r1O :: someB b (.slice (some ⟨g0, o0, none⟩) ivs.length bc) (.slice ha has.length hc) :: []))) w10 := S
              have e0 := cellAt (S.box (b := x + 1) 1 rfl) 0 (v := .string typeError) rfl
              have e1 := cellAt (S.box (b := x + 1) 1 rfl) 1 (v := .int .i64 0) rfl
              have e2 := cellAt (S.box (b := x + 1) 1 rfl) 2 (v := .int .i64 0) rfl
              have e3 := cellAt (S.box (b := x + 1) 1 rfl) 3 (v := .string ⟨#[]⟩) rfl
              have e4 := cellAt (S.box (b := x + 1) 1 rfl) 4 (v := .bool false) rfl
              have S9 : Hid (Sep w (slxR (.slice ra svx.length rc) svx :: valsR (.slice ma made.length mc) made :: heapR h H :: (Ns ++ (valB q r1O :: someB b (.slice (some ⟨g0, o0, none⟩) ivs.length bc) (.slice ha has.length hc) :: []))) w10) := Lib.hid S.tail.tail.tail.tail.tail
              clear S
              go_wp2
              exact ⟨⟨i + 1, H, made, rws, O, Ns, svx, by have := HG.out.2; omega, by go_num, HM.out.more, HRI.out, S9.out⟩, by have := HG.out.2; simp [intOf]; omega⟩
            · have MC := Lib.hid (ko_class S 4 rfl HM.out.fit ya yc (basesM made r) (fun W' T => (T.row 1 rfl).sees') hz (some H') hmk)
              have HALL := Lib.hid (And.intro hall (And.intro M' (And.intro hlive (And.intro hord hrng))))
              have HR4 := Lib.hid hr4
              clear S cQ hz hmk hall hi12 hlast hlen hr4 M' hlive hord hrng
              go_wp2_with fail
              refine MC.out.mono ?_
              rintro e w6 ⟨rfl, S⟩
              clear MC d0 d1 d2
              obtain ⟨x, hx⟩ : ∃ gx_, (w6.heap.size) = gx_ := ⟨_, rfl⟩
              have S2 := ((S.alloc (.cells #[.int .i64 4, .int .i64 (H.last + 1), .string ⟨#[]⟩] 33)).alloc (.cells #[.string ⟨#[]⟩, .int .i64 0, .int .i64 0, .string ⟨#[]⟩, .bool false] 45)).madeRow slCellN 1 23
              simp only [World.size_alloc, hx] at S2
              replace S2 : Sep w (slxR (.slice (some ⟨x + 1 + 1, 0, none⟩) 0 0) [] :: boxR (x + 1) (.cells #[.string ⟨#[]⟩, .int .i64 0, .int .i64 0, .string ⟨#[]⟩, .bool false] 45) :: boxR x (.cells #[.int .i64 4, .int .i64 (H.last + 1), .string ⟨#[]⟩] 33) :: intsA (.slice wa r.length wc') r :: valsR (.slice ya (basesM made r).length yc) (basesM made r) :: slxR (.slice ra svx.length rc) svx :: valsR (.slice ma made.length mc) made :: heapR h H' :: (Ns ++ (valB q r1O :: someB b (.slice (some ⟨g0, o0, none⟩) ivs.length bc) (.slice ha has.length hc) :: []))) _ := S2
              have hsx := Lib.hid ((S2.row 5 rfl).seesR (f := slCellN) (m := 1) (fun _ => rfl))
              have HXL : Hid (svx.length ≤ 12) := Lib.hid (by have := HRI.out.1; have := HM.out.rl; have := HM.out.len; have := HG.out.2; omega)
              replace S2 := Lib.hid S2
              clear S
              go_wp2_with (first | (simp only [hx]; at_builtin; refine wpList_append_rows rfl _ _ 22 23 rfl Try.underlying22 _ 24 info_slx rfl (by decide) (by decide) (fun _ => rfl) slCellN_one S2.out 0 rfl rfl _ svx rfl hsx.out (by have := HXL.out; simp; omega) ?_) | (at_builtin; refine wpList_append_rows rfl _ _ 22 23 rfl Try.underlying22 _ 24 info_slx rfl (by decide) (by decide) (fun _ => rfl) slCellN_one S2.out 0 rfl rfl _ svx rfl hsx.out (by have := HXL.out; simp; omega) ?_))
              try simp only [hx]
              clear hx
              intro va vc w7 S3
              try simp only [List.length_nil, Nat.zero_add, List.nil_append] at S3
              try simp only [List.length_nil, Nat.zero_add]
              replace S3 : Sep w (slxR (.slice va svx.length vc) svx :: boxR (x + 1) (.cells #[.string ⟨#[]⟩, .int .i64 0, .int .i64 0, .string ⟨#[]⟩, .bool false] 45) :: boxR x (.cells #[.int .i64 4, .int .i64 (H.last + 1), .string ⟨#[]⟩] 33) :: intsA (.slice wa r.length wc') r :: valsR (.slice ya (basesM made r).length yc) (basesM made r) :: slxR (.slice ra svx.length rc) svx :: valsR (.slice ma made.length mc) made :: heapR h H' :: (Ns ++ (valB q r1O :: someB b (.slice (some ⟨g0, o0, none⟩) ivs.length bc) (.slice ha has.length hc) :: []))) w7 := S3
              have S4 := S3.alloc (.cells #[.slice wa r.length wc'] 23)
              have hone := Lib.hid (sees_one (f := slCellN) (m := 1) (y := ((wa, r.length, wc') : SlV)) (heapAllocNew w7 (.cells #[.slice wa r.length wc'] 23)) rfl)
              replace S4 := Lib.hid S4
              clear S2 S3 hsx
              go_wp2_with (at_builtin; refine wpList_append_rows rfl _ _ 22 23 rfl Try.underlying22 _ 24 info_slx rfl (by decide) (by decide) (fun _ => rfl) slCellN_one S4.out 1 rfl rfl _ [(wa, r.length, wc')] rfl hone.out (by have := HXL.out; simp; omega) ?_)
              intro vb vd w8 S5
              try simp only [List.length_cons, List.length_nil, Nat.zero_add] at S5
              try simp only [List.length_cons, List.length_nil, Nat.zero_add]
              replace S5 : Sep w (slxR (.slice vb (svx.length + 1) vd) (svx ++ [(wa, r.length, wc')]) :: boxR (x + 1) (.cells #[.string ⟨#[]⟩, .int .i64 0, .int .i64 0, .string ⟨#[]⟩, .bool false] 45) :: boxR x (.cells #[.int .i64 4, .int .i64 (H.last + 1), .string ⟨#[]⟩] 33) :: intsA (.slice wa r.length wc') r :: valsR (.slice ya (basesM made r).length yc) (basesM made r) :: slxR (.slice ra svx.length rc) svx :: valsR (.slice ma made.length mc) made :: heapR h H' :: (Ns ++ (valB q r1O :: someB b (.slice (some ⟨g0, o0, none⟩) ivs.length bc) (.slice ha has.length hc) :: []))) w8 := S5.tail
              have MA := all_ok S5 vb vd (svx ++ [(wa, r.length, wc')]) (rws ++ [r]) (fun W' T => by rw [List.length_append]; exact (T.row 0 rfl).seesR (f := slCellN) (m := 1) (fun _ => rfl)) ((HRI.out.mono fun W' T => FN.out _ [_, _, _, _, _, _, _, _] T).snoc fun W' T => seesN_R ((T.row 3 rfl).seesR (f := intCell) (m := 1) (fun _ => rfl))) (by have := HM.out.rl; have := HM.out.len; have := HG.out.2; simp; omega) (fun y hy => by
                rcases List.mem_append.1 hy with hh | hh
                · have := HM.out.short y hh; omega
                · simp at hh; subst hh; have := HR4.out; omega)
              rw [HALL.out.1] at MA
              simp only [List.length_append, List.length_cons, List.length_nil, Nat.zero_add] at MA
              replace MA := Lib.hid MA
              clear S4 S5 hone
              go_wp2_with fail
              refine MA.out.mono ?_
              rintro e w9 ⟨Ns2, svo, oa, oc, rfl, hro, S⟩
              clear MA
              obtain ⟨m, hm⟩ : ∃ m, m = made.length + 1 := ⟨_, rfl⟩
              have hso : svo.length = m := by rw [hro.1, HALL.out.2.1.out.1, hm]; simp
              have S2 : Sep w (slxR (.slice vb (svx.length + 1) vd) (svx ++ [(wa, r.length, wc')]) :: boxR (x + 1) (.cells #[.string ⟨#[]⟩, .int .i64 0, .int .i64 0, .string ⟨#[]⟩, .bool false] 45) :: boxR x (.cells #[.int .i64 4, .int .i64 (H.last + 1), .string ⟨#[]⟩] 33) :: intsA (.slice wa r.length wc') r :: valsR (.slice ya (basesM made r).length yc) (basesM made r) :: slxR (.slice ra svx.length rc) svx :: valsR (.slice ma made.length mc) made :: heapR h H' :: slxR (.slice oa svo.length oc) svo :: (Ns2 ++ (Ns ++ (valB q r1O :: someB b (.slice (some ⟨g0, o0, none⟩) ivs.length bc) (.slice ha has.length hc) :: [])))) w9 := (S.perm (List.perm_append_comm_assoc (slxR (.slice oa svo.length oc) svo :: Ns2) [slxR (.slice vb (svx.length + 1) vd) (svx ++ [(wa, r.length, wc')]), boxR (x + 1) (.cells #[.string ⟨#[]⟩, .int .i64 0, .int .i64 0, .string ⟨#[]⟩, .bool false] 45), boxR x (.cells #[.int .i64 4, .int .i64 (H.last + 1), .string ⟨#[]⟩] 33), intsA (.slice wa r.length wc') r, valsR (.slice ya (basesM made r).length yc) (basesM made r), slxR (.slice ra svx.length rc) svx, valsR (.slice ma made.length mc) made, heapR h H'] (Ns ++ (valB q r1O :: someB b (.slice (some ⟨g0, o0, none⟩) ivs.length bc) (.slice ha has.length hc) :: []))))
              rw [hso] at S2
              rw [hso]
              obtain ⟨n0, hn0⟩ : ∃ n0, n0 = made.length := ⟨_, rfl⟩
              have hmb : (m : Int) ≤ 13 := by have := HM.out.len; have := HG.out.2; omega
              have hm1 : (m : Int) - 1 = (n0 : Int) := by omega
              have hn0m : n0 < m := by omega
              have hn0i : (n0 : Int) < m := by omega
              have S3 : Sep w (slxR (.slice vb (svx.length + 1) vd) (svx ++ [(wa, r.length, wc')]) :: boxR (x + 1) (.cells #[.string ⟨#[]⟩, .int .i64 0, .int .i64 0, .string ⟨#[]⟩, .bool false] 45) :: boxR x (.cells #[.int .i64 4, .int .i64 (H.last + 1), .string ⟨#[]⟩] 33) :: intsA (.slice wa r.length wc') r :: valsR (.slice ma made.length mc) made :: heapR h H' :: slxR (.slice oa m oc) svo :: (Ns2 ++ (Ns ++ (valB q r1O :: someB b (.slice (some ⟨g0, o0, none⟩) ivs.length bc) (.slice ha has.length hc) :: [])))) w9 := S2.sub (.cons_cons _ (.cons_cons _ (.cons_cons _ (.cons_cons _ (.cons _ (.cons _ (List.Sublist.refl _)))))))
              obtain ⟨L, hL⟩ : ∃ L, L = ordOf O' made.length := ⟨_, rfl⟩
              obtain ⟨c, hcc⟩ : ∃ c : V, c.kind = 4 ∧ c.n = H.last + 1 ∧ c.s = ⟨#[]⟩ ∧ OInv H' (made ++ [c]) (rws ++ [r]) O' (i + 1) r1O ∧ L.map (fun n => ((made ++ [c])[n.toNat]?).getD V.zero) = H'.order c := ⟨_, rfl, rfl, rfl, HALL.out.2.1, by rw [hL]; exact HALL.out.2.2.2.1⟩
              obtain ⟨sv, hsv⟩ : ∃ sv, svo[n0]? = some sv := ⟨svo[n0]'(by omega), by simp⟩
              have hOL : O'[n0]? = some L := by
                have h1 : n0 < O'.length := by rw [HALL.out.2.1.out.1]; simp; omega
                rw [hL, ← hn0]
                unfold ordOf
                rw [Int.toNat_natCast, List.getElem?_eq_getElem h1]; rfl
              have HSV : Hid (∀ W', Sep w Ns2 W' → SeesN W' sv.val L) := Lib.hid (hro.2 n0 sv L hsv hOL)
              obtain ⟨xa, xn, xc⟩ := sv
              have HQ : Hid (∀ W (X : List Res), Sep w (X ++ (Ns2 ++ (Ns ++ (valB q r1O :: someB b (.slice (some ⟨g0, o0, none⟩) ivs.length bc) (.slice ha has.length hc) :: [])))) W → Sep w Ns2 W) := Lib.hid fun W X S => S.sub ((List.sublist_append_left Ns2 _).trans (List.sublist_append_right X _))
              have hxn : xn = L.length := by
                obtain ⟨_, _, e, _⟩ := HSV.out _ (HQ.out _ [_, _, _, _, _, _, _] S3)
                cases e; rfl
              subst hxn
              have hLl : (L.length : Int) ≤ 9223372036854775807 := by
                obtain ⟨_, _, e, q1, q2, _⟩ := HSV.out _ (HQ.out _ [_, _, _, _, _, _, _] S3)
                unfold maxLen at q2; omega
              have hLb : L.length ≤ 13 := by have := HALL.out.2.1.out.2.len made.length; rw [← hL, HALL.out.2.1.out.1] at this; simp at this; have := HM.out.len; have := HG.out.2; omega
              have HL := Lib.hid (And.intro hLb (show ∀ n ∈ L, 0 ≤ n ∧ n ≤ (n0 : Int) by rw [hL, hn0]; exact HALL.out.2.2.2.2))
              have HSO := Lib.hid (And.intro hsv (And.intro hso (And.intro hm hn0)))
              obtain ⟨hc1, hc2, hc3, hc4, hc5⟩ := hcc
              have HC2 := Lib.hid (And.intro hc4 hc5)
              have ec : (#[.int .i64 4, .int .i64 (H.last + 1), .string ⟨#[]⟩] : Array Value) = #[.int .i64 c.kind, .int .i64 c.n, .string c.s] := by rw [hc1, hc2, hc3]
              rw [ec] at S3
              replace S3 : Sep w (slxR (.slice vb (svx.length + 1) vd) (svx ++ [(wa, r.length, wc')]) :: boxR (x + 1) (.cells #[.string ⟨#[]⟩, .int .i64 0, .int .i64 0, .string ⟨#[]⟩, .bool false] 45) :: boxR x (.cells #[.int .i64 c.kind, .int .i64 c.n, .string c.s] 33) :: intsA (.slice wa r.length wc') r :: valsR (.slice ma made.length mc) made :: heapR h H' :: slxR (.slice oa m oc) svo :: (Ns2 ++ (Ns ++ (valB q r1O :: someB b (.slice (some ⟨g0, o0, none⟩) ivs.length bc) (.slice ha has.length hc) :: [])))) w9 := S3
              have t0 := cellAt (S3.box (b := x) 2 rfl) 0 (v := .int .i64 c.kind) rfl
              have t1 := cellAt (S3.box (b := x) 2 rfl) 1 (v := .int .i64 c.n) rfl
              have t2 := cellAt (S3.box (b := x) 2 rfl) 2 (v := .string c.s) rfl
              have e0 := cellAt (S3.box (b := x + 1) 1 rfl) 0 (v := .string ⟨#[]⟩) rfl
              have e1 := cellAt (S3.box (b := x + 1) 1 rfl) 1 (v := .int .i64 0) rfl
              have e2 := cellAt (S3.box (b := x + 1) 1 rfl) 2 (v := .int .i64 0) rfl
              have e3 := cellAt (S3.box (b := x + 1) 1 rfl) 3 (v := .string ⟨#[]⟩) rfl
              have e4 := cellAt (S3.box (b := x + 1) 1 rfl) 4 (v := .bool false) rfl
              have EZ : ∀ W, (binOp .eql 45 excZ excZ).run Try.prog W = .ok (.bool true) W := fun W => by go_simp
              have S4 := S3.alloc (.cells #[.int .i64 c.kind, .int .i64 c.n, .string c.s] 33)
              have hone := Lib.hid (sees_one (f := V.cells) (m := 3) (y := c) (heapAllocNew w9 (.cells #[.int .i64 c.kind, .int .i64 c.n, .string c.s] 33)) rfl)
              have HML : Hid (made.length ≤ 12) := Lib.hid (by have := HM.out.len; have := HG.out.2; omega)
              replace S4 := Lib.hid S4
              clear S S2 S3 hso hsv hOL hL hLb hro hc1 hc2 hc3 hc4 hc5 ec hm hn0
              go_wp2_with (at_builtin; refine wpList_append_rows rfl _ _ 29 33 rfl Try.underlying29 _ 32 info_val rfl (by decide) (by decide) V.cells_len (by intro p u hu; simp [V.cells] at hu; rcases hu with rfl | rfl | rfl <;> rfl) S4.out 5 rfl rfl _ [c] rfl hone.out (by have := HML.out; simp; omega) ?_)
              intro za zc w10 S5
              have em : made.length + 1 = m := by have := HSO.out.2.2.1; omega
              rw [em] at S5
              rw [em]
              replace S5 : Sep w (slxR (.slice vb (svx.length + 1) vd) (svx ++ [(wa, r.length, wc')]) :: boxR (x + 1) (.cells #[.string ⟨#[]⟩, .int .i64 0, .int .i64 0, .string ⟨#[]⟩, .bool false] 45) :: boxR x (.cells #[.int .i64 c.kind, .int .i64 c.n, .string c.s] 33) :: intsA (.slice wa r.length wc') r :: valsR (.slice za m zc) (made ++ [c]) :: heapR h H' :: slxR (.slice oa m oc) svo :: (Ns2 ++ (Ns ++ (valB q r1O :: someB b (.slice (some ⟨g0, o0, none⟩) ivs.length bc) (.slice ha has.length hc) :: [])))) w10 := S5.tail
              have S6 := S5.madeRow V.cells 3 33
              obtain ⟨y, hy⟩ : ∃ gx_, (w10.heap.size) = gx_ := ⟨_, rfl⟩
              rw [hy] at S6
              obtain ⟨get, hget⟩ : ∃ get : Int → V, get = fun n => ((made ++ [c])[n.toNat]?).getD V.zero := ⟨_, rfl⟩
              replace S6 : Hid (Sep w (valsR (.slice (some ⟨y, 0, none⟩) 0 0) ((L.take 0).map get) :: slxR (.slice vb (svx.length + 1) vd) (svx ++ [(wa, r.length, wc')]) :: boxR (x + 1) (.cells #[.string ⟨#[]⟩, .int .i64 0, .int .i64 0, .string ⟨#[]⟩, .bool false] 45) :: boxR x (.cells #[.int .i64 c.kind, .int .i64 c.n, .string c.s] 33) :: intsA (.slice wa r.length wc') r :: valsR (.slice za m zc) (made ++ [c]) :: heapR h H' :: slxR (.slice oa m oc) svo :: (Ns2 ++ (Ns ++ (valB q r1O :: someB b (.slice (some ⟨g0, o0, none⟩) ivs.length bc) (.slice ha has.length hc) :: [])))) _) := Lib.hid S6
              have HGET := Lib.hid hget
              clear S4 S5 hone em t0 t1 t2 e0 e1 e2 e3 e4 EZ hget
              go_wp2
              try simp only [hy]
              clear hy
              go_loopw [19, 20] (fun wv kv wr => ∃ k : Nat, k ≤ L.length ∧ kv = .int .i64 k ∧ Sep w (valsR wv ((L.take k).map get) :: slxR (.slice vb (svx.length + 1) vd) (svx ++ [(wa, r.length, wc')]) :: boxR (x + 1) (.cells #[.string ⟨#[]⟩, .int .i64 0, .int .i64 0, .string ⟨#[]⟩, .bool false] 45) :: boxR x (.cells #[.int .i64 c.kind, .int .i64 c.n, .string c.s] 33) :: intsA (.slice wa r.length wc') r :: valsR (.slice za m zc) (made ++ [c]) :: heapR h H' :: slxR (.slice oa m oc) svo :: (Ns2 ++ (Ns ++ (valB q r1O :: someB b (.slice (some ⟨g0, o0, none⟩) ivs.length bc) (.slice ha has.length hc) :: [])))) wr) (fun _ kv _ => L.length - (intOf kv).toNat)
              case atStart => exact ⟨0, by omega, rfl, S6.out⟩
              case round =>
                clear S6
                obtain ⟨k, hk, rfl, S⟩ := hrel
                obtain ⟨ua, uc, huv⟩ := (S.row 0 rfl).form
                have hul : ((L.take k).map get).length = k := by simp; omega
                rw [huv, hul] at S
                rw [huv, hul]
                clear huv
                have hse : SeesR slCellN 1 wr (.slice oa m oc) svo := (S.row 7 rfl).seesR (f := slCellN) (m := 1) (fun _ => rfl)
                obtain ⟨go, oo, rfl, cO⟩ := hse.slot HSO.out.1
                simp only [SlV.val] at cO
                by_cases hkl : k < L.length
                · obtain ⟨nx, hx⟩ : ∃ nx, L[k]? = some nx := ⟨L[k], by simp⟩
                  obtain ⟨_, _, e0, p1, p2, p3⟩ := HSV.out _ (HQ.out _ [_, _, _, _, _, _, _, _] S)
                  cases e0
                  obtain ⟨g, o, rfl, hcell⟩ : ∃ g o, xa = some ⟨g, o, none⟩ ∧ ∀ i n, L[i]? = some n → wr.cell? ⟨g, o + i, none⟩ = some (.int .i64 n) := by
                    rcases p3 with hh | hh
                    · subst hh; simp at hkl
                    · exact hh
                  have cx := hcell k nx hx
                  have hkli : (k : Int) < L.length := by omega
                  have hnx := HL.out.2 nx (List.mem_of_getElem? hx)
                  obtain ⟨t, rfl⟩ := Int.eq_ofNat_of_zero_le hnx.1
                  have htm : t < m := by omega
                  have htm2 : (t : Int) < m := by omega
                  obtain ⟨p, hp⟩ : ∃ p, (made ++ [c])[t]? = some p := ⟨(made ++ [c])[t]'(by have := HSO.out.2.2.1; simp; omega), by simp⟩
                  have hsn : (L.take (k + 1)).map get = (L.take k).map get ++ [p] := by
                    have hg : get (t : Int) = p := by rw [HGET.out]; show ((made ++ [c])[(t : Int).toNat]?).getD V.zero = p; rw [Int.toNat_natCast, hp]; rfl
                    rw [List.take_add_one, hx, List.map_append]
                    show _ ++ [get (t : Int)] = _
                    rw [hg]
                  obtain ⟨_, _, e0, r1, r2, r3⟩ := (S.row 5 rfl).sees'
                  have e1 := (Value.slice.inj e0).1
                  subst e1
                  clear e0
                  obtain ⟨g2, o2, rfl, hcell2⟩ : ∃ g o, za = some ⟨g, o, none⟩ ∧ ∀ i v, (made ++ [c])[i]? = some v → wr.cell? ⟨g, o + i * 3, none⟩ = some (.int .i64 v.kind) ∧ wr.cell? ⟨g, o + i * 3 + 1, none⟩ = some (.int .i64 v.n) ∧ wr.cell? ⟨g, o + i * 3 + 2, none⟩ = some (.string v.s) := by
                    rcases r3 with hh | hh
                    · simp at hh
                    · exact hh
                  obtain ⟨t0, t1, t2⟩ := hcell2 t p hp
                  have HJ2 := Lib.hid (And.intro hsn (And.intro hkl hul))
                  have S7 := S.alloc (.cells #[.int .i64 p.kind, .int .i64 p.n, .string p.s] 33)
                  have hone := Lib.hid (sees_one (f := V.cells) (m := 3) (y := p) (heapAllocNew wr (.cells #[.int .i64 p.kind, .int .i64 p.n, .string p.s] 33)) rfl)
                  obtain ⟨T, hT⟩ : ∃ T, (L.take k).map get = T := ⟨_, rfl⟩
                  rw [hT] at S7 HJ2
                  have hTk : T.length = k := by rw [← hT]; exact hul
                  subst hTk
                  replace S7 := Lib.hid S7
                  clear S hcell hcell2 p1 p2 p3 r1 r2 r3 hnx hsn hp hx hT hul hk hkl
                  go_wp2_with (at_builtin; refine wpList_append_rows rfl _ _ 29 33 rfl Try.underlying29 _ 32 info_val rfl (by decide) (by decide) V.cells_len (by intro p u hu; simp [V.cells] at hu; rcases hu with rfl | rfl | rfl <;> rfl) S7.out 1 rfl rfl _ [p] rfl hone.out (by have := HL.out.1; have := HJ2.out.2.1; simp; omega) ?_)
                  intro na nc w11 S8
                  have S9 := Lib.hid S8.tail
                  clear S7 S8 hone t0 t1 t2 cx cO
                  go_wp2
                  refine ⟨⟨T.length + 1, by have := HJ2.out.2.1; omega, by go_num, by rw [HJ2.out.1]; exact S9.out⟩, by have := HJ2.out.2.1; simp [intOf]; omega⟩
                · obtain rfl : k = L.length := by omega
                  rw [List.take_length] at S
                  have hmo : L.map get = H'.order c := by rw [HGET.out]; exact HC2.out.2
                  have HMO := Lib.hid hmo
                  have hltf : ((L.length : Int) < L.length) = False := by simp
                  have t0 := cellAt (S.box (b := x) 3 rfl) 0 (v := .int .i64 c.kind) rfl
                  have t1 := cellAt (S.box (b := x) 3 rfl) 1 (v := .int .i64 c.n) rfl
                  have t2 := cellAt (S.box (b := x) 3 rfl) 2 (v := .string c.s) rfl
                  have hlm : (L.map get).length = L.length := List.length_map _
                  have MO := ko_ord S 6 rfl HC2.out.1.fit.G (by have := HG.out.2; omega) c (L.map get) hmo
                  rw [hlm] at MO
                  replace MO := Lib.hid MO
                  have HLM := Lib.hid hlm
                  clear S hk hkl hul hmo hlm
                  go_wp2_with fail
                  refine MO.out.mono ?_
                  rintro e w12 ⟨pa, pc, rfl, S⟩
                  clear MO t0 t1 t2 cO
                  have hs1 := (S.row 0 rfl).sees'
                  have hs2 := (S.row 1 rfl).sees'
                  have MS := Lib.hid ((same_vals w12 _ _ (L.map get) (L.map get) hs1 hs2).mono fun e W1 (hh : _ ∧ _) => (⟨by rw [hh.1]; simp, by obtain ⟨n, e2⟩ := hh.2; rw [e2]; exact (S.drewN n).tail⟩ : e = .returned (.bool true) ∧ Sep w (valsR (.slice ua L.length uc) (L.map get) :: slxR (.slice vb (svx.length + 1) vd) (svx ++ [(wa, r.length, wc')]) :: boxR (x + 1) (.cells #[.string ⟨#[]⟩, .int .i64 0, .int .i64 0, .string ⟨#[]⟩, .bool false] 45) :: boxR x (.cells #[.int .i64 c.kind, .int .i64 c.n, .string c.s] 33) :: intsA (.slice wa r.length wc') r :: valsR (.slice za m zc) (made ++ [c]) :: heapR h H' :: slxR (.slice (some ⟨go, oo, none⟩) m oc) svo :: (Ns2 ++ (Ns ++ (valB q r1O :: someB b (.slice (some ⟨g0, o0, none⟩) ivs.length bc) (.slice ha has.length hc) :: [])))) W1))
                  clear S hs1 hs2
                  go_wp2_with fail
                  refine MS.out.mono ?_
                  rintro e w13 ⟨rfl, S⟩
                  clear MS
                  have ML := (ko_live S 6 rfl HC2.out.1.fit.G (by have := HG.out.2; omega) (lv + 1) (by rw [HALL.out.2.2.1, HLV.out]))
                  have elv : ((lv + 1 : Nat) : Int) = (lv : Int) + 1 := by omega
                  rw [elv] at ML
                  replace ML := Lib.hid ML
                  clear S elv
                  go_wp2_with fail
                  refine ML.out.mono ?_
                  rintro e w14 ⟨rfl, S⟩
                  clear ML
                  have S9 : Hid (Sep w (slxR (.slice vb (svx.length + 1) vd) (svx ++ [(wa, r.length, wc')]) :: valsR (.slice za m zc) (made ++ [c]) :: heapR h H' :: ((intsA (.slice wa r.length wc') r :: Ns) ++ (valB q r1O :: someB b (.slice (some ⟨g0, o0, none⟩) ivs.length bc) (.slice ha has.length hc) :: []))) w14) := Lib.hid (by
                    have h1 : Sep w (slxR (.slice vb (svx.length + 1) vd) (svx ++ [(wa, r.length, wc')]) :: intsA (.slice wa r.length wc') r :: valsR (.slice za m zc) (made ++ [c]) :: heapR h H' :: (Ns ++ (valB q r1O :: someB b (.slice (some ⟨g0, o0, none⟩) ivs.length bc) (.slice ha has.length hc) :: []))) w14 := S.sub (.cons _ (.cons_cons _ (.cons _ (.cons _ (.cons_cons _ (.cons_cons _ (.cons_cons _ (.cons _ (List.sublist_append_right Ns2 _)))))))))
                    exact h1.perm (.cons _ ((List.Perm.swap _ _ _).trans (.cons _ (List.Perm.swap _ _ _)))))
                  clear S
                  go_wp2
                  refine ⟨⟨i + 1, H', made ++ [c], rws ++ [r], O', intsA (.slice wa r.length wc') r :: Ns, svx ++ [(wa, r.length, wc')], by have := HG.out.2; omega, by go_num, HC2.out.1, ?_, S9.out⟩, by have := HG.out.2; simp [intOf]; omega⟩
                  exact (HRI.out.mono fun W' T => Sep.tail T).snoc fun W' T => seesN_R ((Sep.row T 0 rfl).seesR (f := intCell) (m := 1) (fun _ => rfl))
    · have MM := Lib.hid HM.out
      replace S := Lib.hid S.below
      clear M HM hi12
      by_cases a1 : i < ivs.length
      · have b1 : (i : Int) < ivs.length := by omega
        have b2 : (12 : Int) ≤ i := by omega
        clear a1 hgo
        go_wp2
        go_ret
        exact ⟨rfl, S.out⟩
      · have b1 : (ivs.length : Int) ≤ i := by omega
        clear a1 hgo
        go_wp2
        go_ret
        exact ⟨rfl, S.out⟩
set_option maxRecDepth 100000 in
theorem lifted (os : Os) (started : os.Started) (H : Type) (enc : TypeId × Value → H) :
    ReturnsInHanded {} Try.checked os 8 .any (Rows.objectOrdersSpec.pre6 enc Try.prog Try.f8 Rows.objectOrdersRow.domain false) (Rows.objectOrdersSpec.post enc Try.prog Try.f8 false true false false) := by
  refine law_lift (C := Try.checked) own started (by kernel_rfl) Try.func8
    (ChangeSpec.witness6 (enc := enc) (C := Try.checked) false ⟨#[], #[.agg #[.slice none 0 0, .slice none 0 0]], []⟩ 8 (by kernel_rfl) (by kernel_rfl) (by kernel_rfl) (by kernel_rfl))
    (by kernel_rfl) (by kernel_rfl) rfl (fun ds h => by
      match ds, h with
      | [d1], _ => exact ⟨rfl, rfl, rfl⟩) rfl Try.underlying4 ?_
  intro W base args ds ps hval hA hlt hwt hsh
  rw [Try.params8] at hA hval
  obtain ⟨v0, vs0, d0, ds0, p0, q0, hargs, rfl, rfl, h0, r0⟩ := trodAll_cons hA
  obtain ⟨rfl, rfl, rfl⟩ := trodAll_nil r0
  obtain rfl : args = #[v0] := by cases args; simp_all
  obtain ⟨cs0, rfl, hsz0⟩ := okWide_struct Try.underlying25 (hval 0 25 v0 rfl rfl)
  obtain ⟨fuel0, hf0⟩ := h0
  obtain ⟨sB0, sH0, e0, sI0⟩ := open_some (cs := cs0.toList) hf0
  obtain rfl : cs0 = [sB0, sH0].toArray := by rw [← e0]
  -- WALK
  exact walk W _ _ sI0
theorem proved : Rows.ObjectOrdersSaid :=
  OpenClaim.holds_of_wide 8 Try.f8 rfl rfl rfl rfl rfl rfl rfl ⟨rfl, rfl, rfl, rfl, rfl⟩ rfl rfl rfl rfl rfl (by kernel_rfl) Try.func8 (by kernel_rfl)
    (of_decide_eq_true (by kernel_rfl)) (by unfold Func.isWrapper; first | (rw [if_pos (by decide +kernel)]; kernel_rfl) | (rw [if_neg (by decide +kernel)]; exact ⟨rfl, rfl⟩))
    (fun os started H enc _ => lifted os started H enc)
#print axioms proved
end Go.Proofs.Ytkocenlglodklaa.objectOrders
