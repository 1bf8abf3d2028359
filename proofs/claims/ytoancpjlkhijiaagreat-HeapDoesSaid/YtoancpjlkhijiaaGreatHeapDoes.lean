/-
  HeapDoes: for any calls the law returns true: a heap does just what the document's answer does, call by call. No condition.
-/
import Derived.Test.YtoancpjlkhijiaaGreatSame
import Derived.Test.YtoancpjlkhijiaaGreatDoRef
import Derived.Test.YtoancpjlkhijiaaGreatPre
import Derived.IntWalk
import Derived.Deep.RegionHeld3
import Derived.Deep.CutRange
namespace Go.Proofs.YtoancpjlkhijiaaGreat.heapDoes
set_option linter.unusedSimpArgs false
open Go.ChangeShapes Go.WideShapes Go.ChangeAt Go.RowKit
set_option linter.unusedVariables false
theorem doV_val {H : HeapM} {N : Nat} (G : H.Good N) (hN : N ≤ 4000000) (x : OpM) : ∃ z : V, H.doV x = z.val := by
  unfold HeapM.doV
  split
  · have h1 := G.ok.last
    have h2 := G.wt
    exact ⟨V.ref (H.last + 1) (okI_of ⟨by omega, by omega⟩), rfl⟩
  · exact ⟨V.zero, rfl⟩
set_option maxRecDepth 100000 in
theorem big (w : World) (s : Value) (l : List OpM) (hs : SeesO w s l) (hb : bigM l = true) :
    Calls Tryz.prog 3 #[s] w (LawTrue w) := by
  have C := big_ok w _ l hs
  obtain ⟨a, ac, rfl, -, -, -, -⟩ := hs
  rw [hb] at C
  have C' := Lib.hid C
  clear hb C
  go_enter Tryz.func3, Tryz.ntmps3
  go_wp2_with fail
  refine C'.out.mono ?_
  rintro e w2 ⟨rfl, q, rfl⟩
  have B := Lib.hid (Below.drewN (Below.refl w.heap.size w) q)
  clear C'
  obtain ⟨w2, hw2⟩ : ∃ w2, w.drewN q = w2 := ⟨_, rfl⟩
  rw [hw2] at B ⊢
  clear hw2
  go_wp2
  go_ret
  exact ⟨rfl, B.out⟩
set_option maxRecDepth 100000 in
set_option maxHeartbeats 6400000 in
theorem small (w : World) (s : Value) (l : List OpM) (hs : SeesO w s l) (hb : bigM l = false) :
    Calls Tryz.prog 3 #[s] w (LawTrue w) := by
  have HS := Lib.hid hs
  have HW := Lib.hid (opsW_small hb)
  have HN := Lib.hid (not_big hb)
  have hl : (l.length : Int) ≤ 60 := by have := HN.out.1; omega
  have C := big_ok _ _ l hs
  obtain ⟨a, ac, rfl, -, -, -, -⟩ := hs
  rw [hb] at C
  have C' := Lib.hid C
  clear C hb
  go_enter Tryz.func3, Tryz.ntmps3
  go_wp2_with fail
  refine C'.out.mono ?_
  rintro e w1 ⟨rfl, q, rfl⟩
  have S1 := Sep.start (Below.drewN (Below.refl w.heap.size w) q)
  obtain ⟨w1, hw1⟩ : ∃ w1, w.drewN q = w1 := ⟨_, rfl⟩
  rw [hw1] at S1 ⊢
  clear hw1 C'
  have C2 := Lib.hid S1.new
  clear S1
  go_wp2_with fail
  refine C2.out.mono ?_
  rintro e w2 ⟨h, rfl, S2, -⟩
  have S3 := refNew S2
  obtain ⟨r, hr⟩ : ∃ r, w2.heap.size = r := ⟨_, rfl⟩
  rw [hr] at S3
  replace S3 := Lib.hid S3
  clear C2 S2
  go_wp2
  go_loopw [5] (fun iv wr => ∃ k : Nat, k ≤ l.length ∧ iv = .int .i64 k ∧ Sep w [refR r (madeM (l.take k)), heapR h (madeM (l.take k))] wr) (fun iv _ => l.length - (intOf iv).toNat)
  case atStart => exact ⟨0, by omega, rfl, S3.out⟩
  case round =>
    clear S3
    obtain ⟨k, hk, rfl, S4⟩ := hrel
    by_cases hlt : k < l.length
    · obtain ⟨x, hx⟩ : ∃ x, l[k]? = some x := ⟨l[k], by simp [hlt]⟩
      obtain ⟨g, o, rfl, hc, hin⟩ := HS.out.at_ hx
      have F := madeM_fit (l.take k)
      have F2 := madeM_fit (l.take (k + 1))
      have hw2 : opsW (l.take (k + 1)) ≤ 1000000 := by
        have h1 : opsW (l.take (k + 1)) = opsW (l.take k) + (x.l.length + 2) := by rw [List.take_add_one, hx]; exact opsW_snoc _ _
        have := opsW_take hx
        have := HW.out
        omega
      have hx60 := opsW_take hx
      have hT : madeM (l.take (k + 1)) = (madeM (l.take k)).doo x := by rw [List.take_add_one, hx]; exact madeM_snoc _ _
      rw [hT] at F2
      generalize opsW (l.take (k + 1)) = M at *
      generalize madeM (l.take k) = H at *
      have hbd : opsW (l.take k) + x.l.length + 1 ≤ 4000000 := by have := HW.out; omega
      generalize opsW (l.take k) = N at *
      obtain ⟨z, hz⟩ := doV_val F.G (by omega) x
      obtain ⟨LL, A, back, -⟩ := S4.viaHAt 1 rfl
      have D := A.doo F.G x (hin.1.keep fun p v hp => cellBelow hp S4.below) (fun g o n c e h0 => by
        rcases hin.2 g o n c e h0 with h | ⟨_, h⟩
        · exact .inl h
        · cases h) hbd
      have DR := fun W (Rs : List Res) (S : Sep w (refR r H :: Rs) W) => doRef_ok S F x hin hbd
      rw [hz] at D
      simp only [RefDone, hz] at DR
      have HCC := Lib.hid (fun W (S : Below w.heap.size w W) j u (hu : x.cells[j]? = some u) => cellBelow (hc j u hu) S)
      have hcc : ∀ j u, x.cells[j]? = some u → wr.cell? ⟨g, o + k * 16 + j, none⟩ = some u := HCC.out wr S4.below
      have c0 := hcc 0 _ rfl
      have c1 := hcc 1 _ rfl
      have c2 := hcc 2 _ rfl
      have c3 := hcc 3 _ rfl
      have c4 := hcc 4 _ rfl
      have c5 := hcc 5 _ rfl
      have c6 := hcc 6 _ rfl
      have c7 := hcc 7 _ rfl
      have c8 := hcc 8 _ rfl
      have c9 := hcc 9 _ rfl
      have c10 := hcc 10 _ rfl
      have c11 := hcc 11 _ rfl
      have c12 := hcc 12 _ rfl
      have c13 := hcc 13 _ rfl
      have c14 := hcc 14 _ rfl
      have c15 := hcc 15 _ rfl
      simp only [Nat.add_zero] at c0
      have hil : (k : Int) < l.length := by omega
      have HX := Lib.hid (And.intro hT (And.intro hlt (And.intro F2 hw2)))
      have BK := Lib.hid back
      simp only [OpM.val, V.val] at D DR
      replace D := Lib.hid D
      replace DR := Lib.hid DR
      clear hx hc hcc hin F hx60 hlt hT A back S4 hbd hr F2 hw2 hz
      generalize H.doo x = H' at *
      generalize H.doN x = dn at *
      go_wp2_with fail
      refine D.out.mono ?_
      rintro e w3 ⟨rfl, A4⟩
      have S5 : Sep w [refR r H, heapR h H'] w3 := BK.out _ _ A4
      have S5b := (S5.alloc (valObj z)).swap
      clear c0 c1 c2 c3 c4 c5 c6 c7 c8 c9 c10 c11 c12 c13 c14 c15 D A4 BK S5
      have hcc : ∀ j u, x.cells[j]? = some u → (w3.alloc (.cells #[.int .i64 z.kind, .int .i64 z.n, .string z.s] 31)).cell? ⟨g, o + k * 16 + j, none⟩ = some u := HCC.out _ S5b.below
      have c0 := hcc 0 _ rfl
      have c1 := hcc 1 _ rfl
      have c2 := hcc 2 _ rfl
      have c3 := hcc 3 _ rfl
      have c4 := hcc 4 _ rfl
      have c5 := hcc 5 _ rfl
      have c6 := hcc 6 _ rfl
      have c7 := hcc 7 _ rfl
      have c8 := hcc 8 _ rfl
      have c9 := hcc 9 _ rfl
      have c10 := hcc 10 _ rfl
      have c11 := hcc 11 _ rfl
      have c12 := hcc 12 _ rfl
      have c13 := hcc 13 _ rfl
      have c14 := hcc 14 _ rfl
      have c15 := hcc 15 _ rfl
      simp only [Nat.add_zero] at c0
      have DQ := DR.out _ _ S5b
      simp only [valObj] at DQ
      replace DQ := Lib.hid DQ
      clear hcc S5b DR
      go_wp2_with fail
      refine DQ.out.mono ?_
      rintro e w4 ⟨rfl, S6⟩
      have S7 : Sep w [boxR w4.heap.size (valObj z), refR r H', boxR w3.heap.size (valObj z), heapR h H'] (w4.alloc (valObj z)) := Sep.alloc S6 (valObj z)
      clear c0 c1 c2 c3 c4 c5 c6 c7 c8 c9 c10 c11 c12 c13 c14 c15 DQ S6
      obtain ⟨bb, hbb⟩ : ∃ b, w3.heap.size = b := ⟨_, rfl⟩
      obtain ⟨bd, hbd⟩ : ∃ b, w4.heap.size = b := ⟨_, rfl⟩
      rw [hbb, hbd] at S7
      have KK : Hid (∀ W, Sep w [boxR bd (valObj z), refR r H', boxR bb (valObj z), heapR h H'] W → (W.cell? ⟨bb, 0, none⟩ = some (.int .i64 z.kind) ∧ W.cell? ⟨bb, 1, none⟩ = some (.int .i64 z.n) ∧ W.cell? ⟨bb, 2, none⟩ = some (.string z.s)) ∧ (W.cell? ⟨bd, 0, none⟩ = some (.int .i64 z.kind) ∧ W.cell? ⟨bd, 1, none⟩ = some (.int .i64 z.n) ∧ W.cell? ⟨bd, 2, none⟩ = some (.string z.s)) ∧ (W.cell? ⟨g, o + k * 16 + 1, none⟩ = some (.int .i64 x.kd) ∧ W.cell? ⟨g, o + k * 16 + 2, none⟩ = some (.int .i64 x.i)) ∧ (W.cell? ⟨g, o + k * 16 + 6, none⟩ = some (.int .i64 x.v.kind) ∧ W.cell? ⟨g, o + k * 16 + 7, none⟩ = some (.int .i64 x.v.n) ∧ W.cell? ⟨g, o + k * 16 + 8, none⟩ = some (.string x.v.s)) ∧ (W.cell? ⟨g, o + k * 16 + 9, none⟩ = some (.int .i64 x.k.kind) ∧ W.cell? ⟨g, o + k * 16 + 10, none⟩ = some (.int .i64 x.k.n) ∧ W.cell? ⟨g, o + k * 16 + 11, none⟩ = some (.string x.k.s))) := Lib.hid fun W S => by
        obtain ⟨x0, x1, x2, -⟩ := valBlkO (S.box 2 rfl)
        obtain ⟨y0, y1, y2, -⟩ := valBlkO (S.box 0 rfl)
        have hcc := HCC.out W S.below
        exact ⟨⟨x0, x1, x2⟩, ⟨y0, y1, y2⟩, ⟨hcc 1 _ rfl, hcc 2 _ rfl⟩, ⟨hcc 6 _ rfl, hcc 7 _ rfl, hcc 8 _ rfl⟩, ⟨hcc 9 _ rfl, hcc 10 _ rfl, hcc 11 _ rfl⟩⟩
      have FB : Hid (∀ W, Sep w [boxR bd (valObj z), refR r H', boxR bb (valObj z), heapR h H'] W → Sep w [refR r H', heapR h H'] W) := Lib.hid fun W S => S.sub (.cons _ (.cons_cons _ (.cons _ (List.Sublist.refl _))))
      have L1 := fun W kd (S : Sep w [boxR bd (valObj z), refR r H', boxR bb (valObj z), heapR h H'] W) => S.live 3 rfl HX.out.2.2.1.G (by have := HX.out.2.2.2; omega) kd
      have L1' := fun W kd (S : Sep w [boxR bd (valObj z), refR r H', boxR bb (valObj z), heapR h H'] W) => S.yLive 1 rfl HX.out.2.2.1.G (by have := HX.out.2.2.2; omega) kd
      have L2 := fun W (S : Sep w [boxR bd (valObj z), refR r H', boxR bb (valObj z), heapR h H'] W) => same_ok S 3 1 rfl rfl HX.out.2.2.1 HX.out.2.2.2 x.v x.k x.i x.hi
      simp only [V.val] at L2
      obtain ⟨base, hbase⟩ : ∃ base, [boxR bd (valObj z), refR r H', boxR bb (valObj z), heapR h H'] = base := ⟨_, rfl⟩
      rw [hbase] at KK FB L1 L1' L2 S7
      simp only [valObj] at S7
      replace L1 := Lib.hid L1
      replace L1' := Lib.hid L1'
      replace L2 := Lib.hid L2
      replace S7 := Lib.hid S7
      clear hbase
      have hneq := fun W => neq_vals W z z false (by simp)
      have hk0 : (0 : Int) ≤ k := by omega
      go_upto_region 12 with fail
      obtain ⟨wb, hwb⟩ : ∃ wb, w4.alloc (.cells #[.int .i64 z.kind, .int .i64 z.n, .string z.s] 31) = wb := ⟨_, rfl⟩
      rw [hwb] at S7 ⊢
      try rw [hbb]
      try rw [hbd]
      clear hwb hbb hbd HCC
      go_cut [93] (fun s93 wx => s93 = .bool false ∧ Sep w [refR r H', heapR h H'] wx)
      case first =>
        have T0 := S7.out
        clear S7
        go_region_held3 (fun W => (W.cell? ⟨bb, 0, none⟩ = some (.int .i64 z.kind) ∧ W.cell? ⟨bb, 1, none⟩ = some (.int .i64 z.n) ∧ W.cell? ⟨bb, 2, none⟩ = some (.string z.s)) ∧ (W.cell? ⟨bd, 0, none⟩ = some (.int .i64 z.kind) ∧ W.cell? ⟨bd, 1, none⟩ = some (.int .i64 z.n) ∧ W.cell? ⟨bd, 2, none⟩ = some (.string z.s)) ∧ (W.cell? ⟨g, o + k * 16 + 1, none⟩ = some (.int .i64 x.kd) ∧ W.cell? ⟨g, o + k * 16 + 2, none⟩ = some (.int .i64 x.i)) ∧ (W.cell? ⟨g, o + k * 16 + 6, none⟩ = some (.int .i64 x.v.kind) ∧ W.cell? ⟨g, o + k * 16 + 7, none⟩ = some (.int .i64 x.v.n) ∧ W.cell? ⟨g, o + k * 16 + 8, none⟩ = some (.string x.v.s)) ∧ (W.cell? ⟨g, o + k * 16 + 9, none⟩ = some (.int .i64 x.k.kind) ∧ W.cell? ⟨g, o + k * 16 + 10, none⟩ = some (.int .i64 x.k.n) ∧ W.cell? ⟨g, o + k * 16 + 11, none⟩ = some (.string x.k.s)))
          (first | exact KK.out _ (by assumption) | exact KK.out _ (Sep.drew (by assumption)))
          (first
            | (go_at_call_of 8 (Value.pointer (some ⟨h, 0, none⟩)); refine (L1.out _ _ (by first | assumption | exact Sep.drew (by assumption))).mono ?_; rintro e w6 ⟨rfl, T1, -⟩)
            | (go_at_call 9; refine (L1'.out _ _ (by first | assumption | exact Sep.drew (by assumption))).mono ?_; rintro e w6 ⟨rfl, T1⟩)
            | (go_at_call 10; refine (L2.out _ (by first | assumption | exact Sep.drew (by assumption))).mono ?_; rintro e w6 ⟨rfl, T1⟩))
        all_goals (go_wp2_with fail; go_meet; exact ⟨rfl, FB.out _ (by assumption)⟩)
      case rest =>
        obtain ⟨rfl, S8⟩ := hcut
        replace S8 := Lib.hid S8
        clear L1 L1' L2 KK S7
        go_wp2
        refine ⟨⟨k + 1, by have := HX.out.2.1; omega, by go_num, by rw [HX.out.1]; exact S8.out⟩, by have := HX.out.2.1; simp [intOf]; omega⟩
    · obtain rfl : k = l.length := by omega
      rw [List.take_length] at S4
      have F := madeM_fit l
      have hN : opsW l ≤ 1000000 := by have := HW.out; omega
      generalize madeM l = H at *
      generalize opsW l = N at *
      have C1 := fun W (S : Sep w [refR r H, heapR h H] W) => S.all 1 rfl F.G (by omega)
      have C2 := fun W v (S : Sep w [numsR v (H.objs.map (·.1)), refR r H, heapR h H] W) => S.yAll 1 rfl F.G (by omega)
      have hok : ∀ n ∈ H.objs.map (·.1), okI n := (HeapM.keys_nums F.G).ok F.G (by omega)
      generalize H.objs.map (·.1) = L at *
      have HOK := Lib.hid hok
      replace C1 := Lib.hid C1
      replace C2 := Lib.hid C2
      replace S4 := Lib.hid S4
      clear hlt F hN HS HW hk hr hok
      go_wp2_with fail
      refine (kept_ok _).mono ?_
      rintro e w5 ⟨rfl, hb5⟩
      have K1 := Lib.hid (C1.out _ (S4.out.later hb5))
      clear hb5 S4 C1
      go_wp2_with fail
      refine K1.out.mono ?_
      rintro e w6 ⟨av, rfl, S6, -⟩
      obtain ⟨aa, ac', rfl⟩ := (S6.row 0 rfl).form
      have K2 := Lib.hid (C2.out _ _ S6)
      clear K1 S6 C2
      go_wp2_with fail
      refine K2.out.mono ?_
      rintro e w7 ⟨bv, rfl, S7⟩
      obtain ⟨ba, bc, rfl⟩ := (S7.row 0 rfl).form
      have C := same_numbers w7 _ _ L L (SeesN.of_slIs (S7.row 1 rfl)) (SeesN.of_slIs (S7.row 0 rfl)) ⟨HOK.out, HOK.out⟩
      rw [show decide (L = L) = true by simp] at C
      replace C := Lib.hid C
      replace S7 := Lib.hid S7
      clear K2
      go_wp2_with fail
      refine C.out.mono ?_
      rintro e w8 ⟨rfl, q, rfl⟩
      have B := Lib.hid (S7.out.drewN q).below
      obtain ⟨w8, hw8⟩ : ∃ w8, w7.drewN q = w8 := ⟨_, rfl⟩
      rw [hw8] at B ⊢
      clear hw8 C S7
      go_wp2
      go_ret
      exact ⟨rfl, B.out⟩
set_option maxRecDepth 100000 in
theorem lifted (os : Os) (started : os.Started) (H : Type) (enc : TypeId × Value → H) :
    ReturnsInHanded {} Tryz.checked os 3 .any (Rows.heapDoesSpec.pre6 enc Tryz.prog Tryz.f3 Rows.heapDoesRow.domain false) (Rows.heapDoesSpec.post enc Tryz.prog Tryz.f3 false true false false) := by
  refine law_lift (C := Tryz.checked) own started (by kernel_rfl) Tryz.func3
    (ChangeSpec.witness6 (enc := enc) (C := Tryz.checked) false ⟨#[], #[.slice none 0 0], []⟩ 8 (by kernel_rfl) (by kernel_rfl) (by kernel_rfl) (by kernel_rfl))
    (by kernel_rfl) (by kernel_rfl) rfl (fun ds h => by
      match ds, h with
      | [d1], _ => exact ⟨rfl, rfl, rfl⟩) rfl Tryz.underlying4 ?_
  intro W base args ds ps hval hA hlt hwt hsh
  rw [Tryz.params3] at hA hval
  obtain ⟨v0, vs0, d0, ds0, p0, q0, hargs, rfl, rfl, h0, r0⟩ := trodAll_cons hA
  obtain ⟨rfl, rfl, rfl⟩ := trodAll_nil r0
  obtain rfl : args = #[v0] := by cases args; simp_all
  obtain ⟨x0, len0, cap0, rfl⟩ := okWide_slice Tryz.underlying22 (hval 0 22 v0 rfl rfl)
  obtain ⟨fuel0, hf0⟩ := h0
  obtain ⟨l0, s0, b0⟩ := open_ops (v := .slice x0 len0 cap0) hf0
  -- WALK
  cases hb : bigM l0 with
  | true => exact big W _ l0 s0 hb
  | false => exact small W _ l0 s0 hb
theorem proved : Rows.HeapDoesSaid :=
  OpenClaim.holds_of_wide 3 Tryz.f3 rfl rfl rfl rfl rfl rfl rfl ⟨rfl, rfl, rfl, rfl, rfl⟩ rfl rfl rfl rfl rfl (by kernel_rfl) Tryz.func3 (by kernel_rfl)
    (of_decide_eq_true (by kernel_rfl)) (by unfold Func.isWrapper; first | (rw [if_pos (by decide +kernel)]; kernel_rfl) | (rw [if_neg (by decide +kernel)]; exact ⟨rfl, rfl⟩))
    (fun os started H enc _ => lifted os started H enc)
#print axioms proved
end Go.Proofs.YtoancpjlkhijiaaGreat.heapDoes
