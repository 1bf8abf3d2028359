/-
  HeapTells: for any calls, value, key and place the law returns true: behind some calls a heap tells just what the document's answer tells of whatever object, or value. No condition.
-/
import Derived.Test.YtoancpjlkhijiaaSame
import Derived.Test.YtoancpjlkhijiaaDoRef
import Derived.Test.YtoancpjlkhijiaaPre
import Derived.IntWalk
namespace Go.Proofs.Ytoancpjlkhijiaa.heapTells
set_option linter.unusedSimpArgs false
open Go.ChangeShapes Go.WideShapes Go.ChangeAt Go.RowKit
set_option linter.unusedVariables false
set_option maxRecDepth 100000 in
theorem big (w : World) (s : Value) (l : List OpM) (v key : V) (i : Int) (hs : SeesO w s l) (hb : bigM l = true) :
    Calls Try.prog 5 #[s, v.val, key.val, .int .i64 i] w (LawTrue w) := by
  have hs2 := seesO_below hs (((Sep.start (Below.refl w.heap.size w)).alloc (valObj v)).alloc (valObj key)).below
  obtain ⟨a, ac, rfl, -, -, -, -⟩ := hs
  have C := big_ok _ _ l hs2
  rw [hb] at C
  simp only [valObj] at C
  have C' := Lib.hid C
  clear hb C hs2
  simp only [V.val]
  go_enter Try.func5, Try.ntmps5
  go_wp2_with fail
  refine C'.out.mono ?_
  rintro e w2 ⟨rfl, q, rfl⟩
  have B := Below.drewN (((Sep.start (Below.refl w.heap.size w)).alloc (valObj v)).alloc (valObj key)).below q
  simp only [valObj] at B
  replace B := Lib.hid B
  clear C'
  obtain ⟨w2, hw2⟩ : ∃ w2, ((w.alloc (.cells #[.int .i64 v.kind, .int .i64 v.n, .string v.s] 26)).alloc (.cells #[.int .i64 key.kind, .int .i64 key.n, .string key.s] 26)).drewN q = w2 := ⟨_, rfl⟩
  rw [hw2] at B ⊢
  clear hw2
  go_wp2
  go_ret
  exact ⟨rfl, B.out⟩
set_option maxRecDepth 100000 in
set_option maxHeartbeats 3200000 in
theorem small (w : World) (s : Value) (l : List OpM) (v key : V) (i : Int) (hi : okI i) (hs : SeesO w s l) (hb : bigM l = false) :
    Calls Try.prog 5 #[s, v.val, key.val, .int .i64 i] w (LawTrue w) := by
  have HS := Lib.hid hs
  have HW := Lib.hid (opsW_small hb)
  have HN := Lib.hid (not_big hb)
  have hl : (l.length : Int) ≤ 60 := by have := HN.out.1; omega
  have S0 := ((Sep.start (Below.refl w.heap.size w)).alloc (valObj v)).alloc (valObj key)
  rw [World.size_alloc] at S0
  have C := big_ok _ _ l (seesO_below hs S0.below)
  obtain ⟨a, ac, rfl, -, -, -, -⟩ := hs
  rw [hb] at C
  simp only [valObj] at C S0
  have C' := Lib.hid C
  replace S0 := Lib.hid S0
  clear C hb
  simp only [V.val]
  go_enter Try.func5, Try.ntmps5
  go_wp2_with fail
  refine C'.out.mono ?_
  rintro e w1 ⟨rfl, q, rfl⟩
  have S1 := S0.out.drewN q
  obtain ⟨w1, hw1⟩ : ∃ w1, ((w.alloc (.cells #[.int .i64 v.kind, .int .i64 v.n, .string v.s] 26)).alloc (.cells #[.int .i64 key.kind, .int .i64 key.n, .string key.s] 26)).drewN q = w1 := ⟨_, rfl⟩
  rw [hw1] at S1 ⊢
  clear hw1 C' S0
  have C2 := Lib.hid S1.new
  clear S1
  go_wp2_with fail
  refine C2.out.mono ?_
  rintro e w2 ⟨h, rfl, S2, -⟩
  have S3 := refNew S2
  obtain ⟨r, hr⟩ : ∃ r, w2.heap.size = r := ⟨_, rfl⟩
  rw [hr] at S3
  obtain ⟨vb, hvb⟩ : ∃ vb, w.heap.size = vb := ⟨_, rfl⟩
  rw [hvb] at S3
  replace S3 := Lib.hid S3
  clear C2 S2
  go_wp2
  go_loopw [11] (fun iv wr => ∃ k : Nat, k ≤ l.length ∧ iv = .int .i64 k ∧ Sep w [refR r (madeM (l.take k)), heapR h (madeM (l.take k)), boxR (vb + 1) (valObj key), boxR vb (valObj v)] wr) (fun iv _ => l.length - (intOf iv).toNat)
  case atStart => exact ⟨0, by omega, rfl, S3.out⟩
  case round =>
    clear S3
    obtain ⟨k, hk, rfl, S4⟩ := hrel
    by_cases hlt : k < l.length
    · obtain ⟨x, hx⟩ : ∃ x, l[k]? = some x := ⟨l[k], by simp [hlt]⟩
      obtain ⟨g, o, rfl, hc, hin⟩ := HS.out.at_ hx
      have F := madeM_fit (l.take k)
      have hx60 := opsW_take hx
      have hT : madeM (l.take (k + 1)) = (madeM (l.take k)).doo x := by rw [List.take_add_one, hx]; exact madeM_snoc _ _
      generalize madeM (l.take k) = H at *
      have hbd : opsW (l.take k) + x.l.length + 1 ≤ 4000000 := by have := HW.out; omega
      generalize opsW (l.take k) = N at *
      obtain ⟨LL, A, back, -⟩ := S4.viaHAt 1 rfl
      have D := A.doo F.G x (hin.1.keep fun p v hp => cellBelow hp S4.below) (fun g o n c e h0 => by
        rcases hin.2 g o n c e h0 with h | ⟨_, h⟩
        · exact .inl h
        · cases h) hbd
      have HCC := Lib.hid (fun W (S : Below w.heap.size w W) j u (hu : x.cells[j]? = some u) => cellBelow (hc j u hu) S)
      have hcc : ∀ j u, x.cells[j]? = some u → wr.cell? ⟨g, o + k * 16 + j, none⟩ = some u := HCC.out wr S4.below
      have c0 := hcc 0 _ rfl
      have c1 := hcc 1 _ rfl
      have c2 := hcc 2 _ rfl
      have c3 := hcc 3 _ rfl
      have c4 := hcc 4 _ rfl
      have c5 := hcc 5 _ rfl
      have c6 := hcc 6 _ rfl
      have c7 := hcc 7 _ rfl
      have c8 := hcc 8 _ rfl
      have c9 := hcc 9 _ rfl
      have c10 := hcc 10 _ rfl
      have c11 := hcc 11 _ rfl
      have c12 := hcc 12 _ rfl
      have c13 := hcc 13 _ rfl
      have c14 := hcc 14 _ rfl
      have c15 := hcc 15 _ rfl
      simp only [Nat.add_zero] at c0
      have hil : (k : Int) < l.length := by omega
      have DR := fun W (S : Sep w [refR r H, heapR h (H.doo x), boxR (vb + 1) (valObj key), boxR vb (valObj v)] W) => doRef_ok S F x hin hbd
      have HX := Lib.hid (And.intro hT hlt)
      have BK := Lib.hid back
      simp only [OpM.val] at D DR
      replace D := Lib.hid D
      replace DR := Lib.hid DR
      clear hx hc hcc hin F hx60 hlt hT A back S4 hbd hvb hr
      go_wp2_with fail
      refine D.out.mono ?_
      rintro e w3 ⟨rfl, A4⟩
      have S5 : Sep w [refR r H, heapR h (H.doo x), boxR (vb + 1) (valObj key), boxR vb (valObj v)] w3 := BK.out _ _ A4
      clear c0 c1 c2 c3 c4 c5 c6 c7 c8 c9 c10 c11 c12 c13 c14 c15 D A4 BK
      have hcc : ∀ j u, x.cells[j]? = some u → w3.cell? ⟨g, o + k * 16 + j, none⟩ = some u := HCC.out w3 S5.below
      have c0 := hcc 0 _ rfl
      have c1 := hcc 1 _ rfl
      have c2 := hcc 2 _ rfl
      have c3 := hcc 3 _ rfl
      have c4 := hcc 4 _ rfl
      have c5 := hcc 5 _ rfl
      have c6 := hcc 6 _ rfl
      have c7 := hcc 7 _ rfl
      have c8 := hcc 8 _ rfl
      have c9 := hcc 9 _ rfl
      have c10 := hcc 10 _ rfl
      have c11 := hcc 11 _ rfl
      have c12 := hcc 12 _ rfl
      have c13 := hcc 13 _ rfl
      have c14 := hcc 14 _ rfl
      have c15 := hcc 15 _ rfl
      simp only [Nat.add_zero] at c0
      have DQ := Lib.hid (DR.out _ S5)
      clear hcc S5 DR
      go_wp2_with fail
      refine DQ.out.mono ?_
      rintro e w4 ⟨rfl, S6⟩
      replace S6 := Lib.hid S6
      clear c0 c1 c2 c3 c4 c5 c6 c7 c8 c9 c10 c11 c12 c13 c14 c15 DQ HCC
      go_wp2
      refine ⟨⟨k + 1, by have := HX.out.2; omega, by go_num, by rw [HX.out.1]; exact S6.out⟩, by have := HX.out.2; simp [intOf]; omega⟩
    · obtain rfl : k = l.length := by omega
      rw [List.take_length] at S4
      have F := madeM_fit l
      have hN : opsW l ≤ 1000000 := by have := HW.out; omega
      generalize madeM l = H at *
      generalize opsW l = N at *
      have SM := fun W (n : Int) (hn : okI n) (S : Sep w [refR r H, heapR h H, boxR (vb + 1) (valObj key), boxR vb (valObj v)] W) => same_ok S 1 0 rfl rfl F hN (V.ref n hn) key i hi
      have SV := fun W (S : Sep w [refR r H, heapR h H, boxR (vb + 1) (valObj key), boxR vb (valObj v)] W) => same_ok S 1 0 rfl rfl F hN v key i hi
      simp only [V.val, V.ref] at SM SV
      replace SM := Lib.hid SM
      replace SV := Lib.hid SV
      replace S4 := Lib.hid S4
      clear hlt F hN HS HW hk hvb hr
      go_wp2
      go_loopw [12] (fun iv wr => ∃ k : Nat, 1 ≤ k ∧ k ≤ l.length + 2 ∧ iv = .int .i64 k ∧ Sep w [refR r H, heapR h H, boxR (vb + 1) (valObj key), boxR vb (valObj v)] wr) (fun iv _ => l.length + 2 - (intOf iv).toNat)
      case atStart => exact ⟨1, by omega, by omega, rfl, S4.out⟩
      case round =>
        clear S4
        obtain ⟨k, hk1, hk2, rfl, S5⟩ := hrel
        obtain ⟨y0, y1, y2, -⟩ := valBlkO (S5.box 2 rfl)
        obtain ⟨x0, x1, x2, -⟩ := valBlkO (S5.box 3 rfl)
        have hs1 : IntKind.i64.wrap ((l.length : Int) + 1) = (l.length : Int) + 1 := IntWalk.i64_in _ (by omega)
        by_cases hlt : k ≤ l.length + 1
        · have hle : (k : Int) ≤ l.length + 1 := by omega
          have C := Lib.hid (SM.out wr k (okI_of ⟨by omega, by omega⟩) S5)
          have HX := Lib.hid (And.intro hk1 hlt)
          clear S5 hk1 hk2 hlt x0 x1 x2
          go_wp2_with fail
          refine C.out.mono ?_
          rintro e w5 ⟨rfl, S6⟩
          replace S6 := Lib.hid S6
          clear C y0 y1 y2
          go_wp2
          refine ⟨⟨k + 1, by omega, by have := HX.out.2; omega, by go_num, S6.out⟩, by have := HX.out.2; simp [intOf]; omega⟩
        · have hle : ¬ (k : Int) ≤ l.length + 1 := by omega
          clear hk1 hk2 hlt x0 x1 x2 y0 y1 y2
          go_wp2_with fail
          refine (kept_ok _).mono ?_
          rintro e w5 ⟨rfl, hb5⟩
          have S6 := S5.later hb5
          obtain ⟨y0, y1, y2, -⟩ := valBlkO (S6.box 2 rfl)
          obtain ⟨x0, x1, x2, -⟩ := valBlkO (S6.box 3 rfl)
          have C := Lib.hid (SV.out _ S6)
          clear hb5 S5 S6
          go_wp2_with fail
          refine C.out.mono ?_
          rintro e w6 ⟨rfl, S7⟩
          have B := Lib.hid S7.below
          clear C S7 x0 x1 x2 y0 y1 y2
          go_wp2
          go_ret
          exact ⟨rfl, B.out⟩
set_option maxRecDepth 100000 in
theorem lifted (os : Os) (started : os.Started) (H : Type) (enc : TypeId × Value → H) :
    ReturnsInHanded {} Try.checked os 5 .any (Rows.heapTellsSpec.pre6 enc Try.prog Try.f5 Rows.heapTellsRow.domain false) (Rows.heapTellsSpec.post enc Try.prog Try.f5 false true false false) := by
  refine law_lift (C := Try.checked) own started (by kernel_rfl) Try.func5
    (ChangeSpec.witness6 (enc := enc) (C := Try.checked) false ⟨#[], #[.slice none 0 0, .agg #[.int .i64 0, .int .i64 0, .string ⟨#[]⟩], .agg #[.int .i64 0, .int .i64 0, .string ⟨#[]⟩], .int .i64 0], []⟩ 8 (by kernel_rfl) (by kernel_rfl) (by kernel_rfl) (by kernel_rfl))
    (by kernel_rfl) (by kernel_rfl) rfl (fun ds h => by
      match ds, h with
      | [d1, d2, d3, d4], _ => exact ⟨rfl, rfl, rfl⟩) rfl Try.underlying4 ?_
  intro W base args ds ps hval hA hlt hwt hsh
  rw [Try.params5] at hA hval
  obtain ⟨v0, vs0, d0, ds0, p0, q0, hargs, rfl, rfl, h0, r0⟩ := trodAll_cons hA
  obtain ⟨v1, vs1, d1, ds1, p1, q1, rfl, rfl, rfl, h1, r1⟩ := trodAll_cons r0
  obtain ⟨v2, vs2, d2, ds2, p2, q2, rfl, rfl, rfl, h2, r2⟩ := trodAll_cons r1
  obtain ⟨v3, vs3, d3, ds3, p3, q3, rfl, rfl, rfl, h3, r3⟩ := trodAll_cons r2
  obtain ⟨rfl, rfl, rfl⟩ := trodAll_nil r3
  obtain rfl : args = #[v0, v1, v2, v3] := by cases args; simp_all
  obtain ⟨x0, len0, cap0, rfl⟩ := okWide_slice Try.underlying33 (hval 0 33 v0 rfl rfl)
  obtain ⟨fuel0, hf0⟩ := h0
  obtain ⟨l0, s0, b0⟩ := open_ops (v := .slice x0 len0 cap0) hf0
  obtain ⟨cs1, rfl, hsz1⟩ := okWide_struct Try.underlying26 (hval 1 26 v1 rfl rfl)
  obtain ⟨fuel1, hf1⟩ := h1
  obtain ⟨x1, e1⟩ := val_of_trod (cs := cs1.toList) hf1
  obtain rfl : cs1 = x1.cells.toArray := by rw [← e1]
  obtain ⟨cs2, rfl, hsz2⟩ := okWide_struct Try.underlying26 (hval 2 26 v2 rfl rfl)
  obtain ⟨fuel2, hf2⟩ := h2
  obtain ⟨x2, e2⟩ := val_of_trod (cs := cs2.toList) hf2
  obtain rfl : cs2 = x2.cells.toArray := by rw [← e2]
  obtain ⟨a3, rfl, rfl, rfl, w3⟩ := open_int Try.underlying3 (hval 3 3 v3 rfl rfl) h3
  -- WALK
  cases hb : bigM l0 with
  | true => exact big W _ l0 x1 x2 a3 s0 hb
  | false => exact small W _ l0 x1 x2 a3 w3 s0 hb
theorem proved : Rows.HeapTellsSaid :=
  OpenClaim.holds_of_wide 5 Try.f5 rfl rfl rfl rfl rfl rfl rfl ⟨rfl, rfl, rfl, rfl, rfl⟩ rfl rfl rfl rfl rfl (by kernel_rfl) Try.func5 (by kernel_rfl)
    (of_decide_eq_true (by kernel_rfl)) (by unfold Func.isWrapper; first | (rw [if_pos (by decide +kernel)]; kernel_rfl) | (rw [if_neg (by decide +kernel)]; exact ⟨rfl, rfl⟩))
    (fun os started H enc _ => lifted os started H enc)
#print axioms proved
end Go.Proofs.Ytoancpjlkhijiaa.heapTells
