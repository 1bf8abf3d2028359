/- ch 13's example: the walk. -/
import Derived.Test.YtjinabglachglaaShownM
import Derived.Test.YtjinabglachglaaHeld
namespace Go.Proofs.Ytjinabglachglaa
set_option linter.unusedSimpArgs false
open Go.RowKit
set_option linter.unusedVariables false
namespace KC
theorem g0 : H0.Good 0 := good_empty
theorem g1 : H1.Good 40 := by have := g0.add oA; rw [e1] at this; exact this.more (by simp [oA, ObjM.vals])
theorem g2 : H2.Good 80 := by have := g1.add oB; rw [e2] at this; exact this.more (by simp [oB, ObjM.vals])
theorem g3 : H3.Good 120 := by have := g2.add oA; rw [e3] at this; exact this.more (by simp [oA, ObjM.vals])
theorem g4 : H4.Good 160 := by have := g3.replace a 0 0 [b]; rw [e4] at this; exact this.more (by simp)
theorem g5 : H5.Good 200 := by have := g4.replace b 1 1 [c]; rw [e5] at this; exact this.more (by simp)
theorem k5 : H5.Kinds := by
  intro p hp
  simp [H5] at hp
  rcases hp with rfl | rfl | rfl <;> simp [oA', oB', oA]
end KC
theorem sees_none (W : World) : SeesV W (.slice none 0 0) [] := ⟨none, 0, rfl, by simp, by simp, .inl rfl⟩
section
variable {w W : World} {Rs : List Res} {h : Nat}
theorem kc_1 (S : Sep w Rs W) (i : Nat) (hi : Rs[i]? = some (heapR h KC.H0)) : Calls Try.prog 26 #[.pointer (some ⟨h, 0, none⟩), .int .i64 1, .string ⟨#[]⟩, .int .i64 0, .slice none 0 0] W fun e W' => e = .returned (.agg #[.int .i64 4, .int .i64 1, .string ⟨#[]⟩]) ∧ Sep w (Rs.set i (heapR h KC.H1)) W' :=
  S.make i hi KC.g0 (by omega) KC.oA (.slice none 0 0) (sees_none W) (by simp [KC.oA]) rfl (by simp [KC.oA]) (by simp [KC.oA])
theorem kc_2 (S : Sep w Rs W) (i : Nat) (hi : Rs[i]? = some (heapR h KC.H1)) (sv : Value) (hs : SeesV W sv [KC.a]) : Calls Try.prog 26 #[.pointer (some ⟨h, 0, none⟩), .int .i64 6, .string ⟨#[]⟩, .int .i64 0, sv] W fun e W' => e = .returned (.agg #[.int .i64 4, .int .i64 2, .string ⟨#[]⟩]) ∧ Sep w (Rs.set i (heapR h KC.H2)) W' :=
  S.make i hi KC.g1 (by omega) KC.oB sv hs (by simp [KC.oB]) rfl (by simp [KC.oB]) (by simp [KC.oB])
theorem kc_3 (S : Sep w Rs W) (i : Nat) (hi : Rs[i]? = some (heapR h KC.H2)) : Calls Try.prog 26 #[.pointer (some ⟨h, 0, none⟩), .int .i64 1, .string ⟨#[]⟩, .int .i64 0, .slice none 0 0] W fun e W' => e = .returned (.agg #[.int .i64 4, .int .i64 3, .string ⟨#[]⟩]) ∧ Sep w (Rs.set i (heapR h KC.H3)) W' :=
  S.make i hi KC.g2 (by omega) KC.oA (.slice none 0 0) (sees_none W) (by simp [KC.oA]) rfl (by simp [KC.oA]) (by simp [KC.oA])
theorem kc_4 (S : Sep w Rs W) (i : Nat) (hi : Rs[i]? = some (heapR h KC.H3)) (sv : Value) (hs : SeesV W sv [KC.b]) : Calls Try.prog 27 #[.pointer (some ⟨h, 0, none⟩), .agg #[.int .i64 4, .int .i64 1, .string ⟨#[]⟩], .int .i64 0, .int .i64 0, sv] W fun e W' => e = .returned (.bool true) ∧ Sep w (Rs.set i (heapR h KC.H4)) W' := by
  have := S.replace i hi KC.g3 KC.a 0 0 sv [KC.b] hs (by simp)
  rw [KC.c4, KC.e4] at this
  exact this
theorem kc_5 (S : Sep w Rs W) (i : Nat) (hi : Rs[i]? = some (heapR h KC.H4)) (sv : Value) (hs : SeesV W sv [KC.c]) : Calls Try.prog 27 #[.pointer (some ⟨h, 0, none⟩), .agg #[.int .i64 4, .int .i64 2, .string ⟨#[]⟩], .int .i64 1, .int .i64 1, sv] W fun e W' => e = .returned (.bool true) ∧ Sep w (Rs.set i (heapR h KC.H5)) W' := by
  have := S.replace i hi KC.g4 KC.b 1 1 sv [KC.c] hs (by simp)
  rw [KC.c5, KC.e5] at this
  exact this
theorem kc_6 (S : Sep w Rs W) (i : Nat) (hi : Rs[i]? = some (heapR h KC.H5)) (sv : Value) (hs : SeesV W sv [KC.b]) : Calls Try.prog 16 #[.pointer (some ⟨h, 0, none⟩), sv] W fun e W' => ∃ v, e = .returned v ∧ Sep w (numsR v [1, 2, 3] :: Rs) W' := by
  obtain ⟨F, h1, _⟩ := S.get i hi
  have := reached_is W _ (HAns.of h1 KC.g5 (by omega)) KC.g5 (by omega) KC.k5 sv _ hs (by simp)
  rw [KC.reached] at this
  exact this.mono fun e W' ⟨v, x1, x2⟩ => ⟨v, x1, S.join x2⟩
theorem kc_7 (S : Sep w Rs W) (i : Nat) (hi : Rs[i]? = some (heapR h KC.H5)) : Calls Try.prog 17 #[.pointer (some ⟨h, 0, none⟩), .slice none 0 0] W fun e W' => ∃ v, e = .returned v ∧ Sep w (numsR v [1, 2, 3] :: Rs) W' := by
  obtain ⟨F, h1, _⟩ := S.get i hi
  have := garbage_is W _ (HAns.of h1 KC.g5 (by omega)) KC.g5 (by omega) KC.k5 _ _ (sees_none W) (by simp)
  rw [KC.garbage0] at this
  exact this.mono fun e W' ⟨v, x1, x2⟩ => ⟨v, x1, S.join x2⟩
theorem kc_8 (S : Sep w Rs W) (i j : Nat) (hij : j ≠ i) (hi : Rs[i]? = some (heapR h KC.H5)) (bk : Nat) (T : TypeId) (hj : Rs[j]? = some (boxR bk (.cells #[.int .i64 4, .int .i64 3, .string ⟨#[]⟩] T))) : Calls Try.prog 15 #[.pointer (some ⟨h, 0, none⟩), .slice (some ⟨bk, 0, none⟩) 1 1] W fun e W' => e = .returned (.tuple #[.int .i64 2, .int .i64 1]) ∧ Sep w (Rs.set i (heapR h KC.H6)) W' := by
  have := collect_ok S i h hi KC.g5 (by omega) KC.k5 (some ⟨bk, 0, none⟩) 1 [KC.c] (by simp) (fun H' W' S' => sees_one KC.c rfl rfl rfl (S'.box j (by rw [List.getElem?_set_ne hij.symm]; exact hj))) (fun W' => ArgS.box j hij hj)
  rw [KC.collects] at this
  exact this
end
theorem sees_123 {W : World} {bk : Nat} {T : TypeId} (h : W.heap[bk]? = some (.cells #[.int .i64 1, .int .i64 2, .int .i64 3] T)) : SeesN W (.slice (some ⟨bk, 0, none⟩) 3 3) [1, 2, 3] := by
  refine ⟨_, 3, rfl, by simp, by simp [maxLen], .inr ⟨bk, 0, rfl, fun i x hx => ?_⟩⟩
  match i, hx with
  | 0, hx => simp at hx; subst hx; exact cellAt h 0 rfl
  | 1, hx => simp at hx; subst hx; exact cellAt h 1 rfl
  | 2, hx => simp at hx; subst hx; exact cellAt h 2 rfl
  | i + 3, hx => simp at hx
theorem ok_123 : (∀ n ∈ [(1 : Int), 2, 3], okI n) ∧ ∀ n ∈ [(1 : Int), 2, 3], okI n := by
  have : ∀ n ∈ [(1 : Int), 2, 3], okI n := fun n hn => by simp at hn; exact okI_of ⟨by omega, by omega⟩
  exact ⟨this, this⟩
set_option maxRecDepth 100000 in
set_option maxHeartbeats 3200000 in
theorem shown_ok (w : World) : Calls Try.prog 12 #[] w fun e W' => e = .returned (.bool true) ∧ Below w.heap.size w W' := by
  have N0 := Lib.hid (Sep.new (Sep.start (Below.refl w.heap.size w)))
  go_enter Try.func12, Try.ntmps12
  go_wp2_with fail
  refine N0.out.mono ?_
  rintro e w1 ⟨h, rfl, S1, -⟩
  have M1 := Lib.hid (kc_1 S1 0 rfl)
  clear N0 S1
  go_wp2_with fail
  refine M1.out.mono ?_
  rintro e w2 ⟨rfl, S1⟩
  have S2 := (S1.alloc (.cells #[.int .i64 4, .int .i64 1, .string ⟨#[]⟩] 41)).alloc (.cells #[.int .i64 4, .int .i64 1, .string ⟨#[]⟩] 41)
  have M2 := kc_2 S2 2 rfl _ (sees_one KC.a rfl rfl rfl (S2.box 0 rfl))
  rw [World.size_alloc] at M2
  replace M2 := Lib.hid M2
  clear M1 S1 S2
  go_wp2_with fail
  refine M2.out.mono ?_
  rintro e w3 ⟨rfl, S3⟩
  replace S3 := S3.tail.alloc (.cells #[.int .i64 4, .int .i64 2, .string ⟨#[]⟩] 41)
  have M3 := Lib.hid (kc_3 S3 2 rfl)
  have HA := Lib.hid S3
  clear M2 S3
  go_wp2_with fail
  refine M3.out.mono ?_
  rintro e w4 ⟨rfl, S4⟩
  obtain ⟨x3, hx3⟩ : ∃ x3, w3.heap.size = x3 := ⟨_, rfl⟩
  obtain ⟨x2, hx2⟩ : ∃ x2, w2.heap.size = x2 := ⟨_, rfl⟩
  rw [hx2, hx3] at S4
  rw [hx2, hx3]
  obtain ⟨x4, hx4⟩ : ∃ x4, w4.heap.size = x4 := ⟨_, rfl⟩
  have S5 := S4.alloc (.cells #[.int .i64 4, .int .i64 3, .string ⟨#[]⟩] 41)
  rw [hx4] at S5
  replace S5 : Sep w [boxR x4 (.cells #[.int .i64 4, .int .i64 3, .string ⟨#[]⟩] 41), boxR x3 (.cells #[.int .i64 4, .int .i64 2, .string ⟨#[]⟩] 41), boxR x2 (.cells #[.int .i64 4, .int .i64 1, .string ⟨#[]⟩] 41), heapR h KC.H3] (w4.alloc (.cells #[.int .i64 4, .int .i64 3, .string ⟨#[]⟩] 41)) := S5
  have c0 := cellAt (S5.box 0 rfl) 0 (v := .int .i64 4) rfl
  have c1 := cellAt (S5.box 0 rfl) 1 (v := .int .i64 3) rfl
  have c2 := cellAt (S5.box 0 rfl) 2 (v := .string ⟨#[]⟩) rfl
  have b0 := cellAt (S5.box 1 rfl) 0 (v := .int .i64 4) rfl
  have b1 := cellAt (S5.box 1 rfl) 1 (v := .int .i64 2) rfl
  have b2 := cellAt (S5.box 1 rfl) 2 (v := .string ⟨#[]⟩) rfl
  have a0 := cellAt (S5.box 2 rfl) 0 (v := .int .i64 4) rfl
  have a1 := cellAt (S5.box 2 rfl) 1 (v := .int .i64 1) rfl
  have a2 := cellAt (S5.box 2 rfl) 2 (v := .string ⟨#[]⟩) rfl
  have S6 := S5.alloc (.cells #[.int .i64 4, .int .i64 2, .string ⟨#[]⟩] 41)
  have M4 := kc_4 S6 4 rfl _ (sees_one KC.b rfl rfl rfl (S6.box 0 rfl))
  rw [World.size_alloc, hx4] at M4
  replace M4 := Lib.hid M4
  have HX4 := Lib.hid hx4
  clear M3 HA hx2 hx3 S4 S5 S6
  go_wp2_with fail
  refine M4.out.mono ?_
  rintro e w5 ⟨rfl, S7⟩
  replace S7 : Sep w [boxR x4 (.cells #[.int .i64 4, .int .i64 3, .string ⟨#[]⟩] 41), boxR x3 (.cells #[.int .i64 4, .int .i64 2, .string ⟨#[]⟩] 41), boxR x2 (.cells #[.int .i64 4, .int .i64 1, .string ⟨#[]⟩] 41), heapR h KC.H4] w5 := S7.tail
  clear a0 a1 a2 b0 b1 b2 c0 c1 c2 M4 hx4
  have c0 := cellAt (S7.box 0 rfl) 0 (v := .int .i64 4) rfl
  have c1 := cellAt (S7.box 0 rfl) 1 (v := .int .i64 3) rfl
  have c2 := cellAt (S7.box 0 rfl) 2 (v := .string ⟨#[]⟩) rfl
  have b0 := cellAt (S7.box 1 rfl) 0 (v := .int .i64 4) rfl
  have b1 := cellAt (S7.box 1 rfl) 1 (v := .int .i64 2) rfl
  have b2 := cellAt (S7.box 1 rfl) 2 (v := .string ⟨#[]⟩) rfl
  have a0 := cellAt (S7.box 2 rfl) 0 (v := .int .i64 4) rfl
  have a1 := cellAt (S7.box 2 rfl) 1 (v := .int .i64 1) rfl
  have a2 := cellAt (S7.box 2 rfl) 2 (v := .string ⟨#[]⟩) rfl
  have S8 := S7.alloc (.cells #[.int .i64 4, .int .i64 3, .string ⟨#[]⟩] 41)
  have M5 := Lib.hid (kc_5 S8 4 rfl _ (sees_one KC.c rfl rfl rfl (S8.box 0 rfl)))
  clear S7 S8
  go_wp2_with fail
  refine M5.out.mono ?_
  rintro e w6 ⟨rfl, S9⟩
  replace S9 : Sep w [boxR x4 (.cells #[.int .i64 4, .int .i64 3, .string ⟨#[]⟩] 41), boxR x3 (.cells #[.int .i64 4, .int .i64 2, .string ⟨#[]⟩] 41), boxR x2 (.cells #[.int .i64 4, .int .i64 1, .string ⟨#[]⟩] 41), heapR h KC.H5] w6 := S9.tail
  clear a0 a1 a2 b0 b1 b2 c0 c1 c2 M5
  have c0 := cellAt (S9.box 0 rfl) 0 (v := .int .i64 4) rfl
  have c1 := cellAt (S9.box 0 rfl) 1 (v := .int .i64 3) rfl
  have c2 := cellAt (S9.box 0 rfl) 2 (v := .string ⟨#[]⟩) rfl
  have b0 := cellAt (S9.box 1 rfl) 0 (v := .int .i64 4) rfl
  have b1 := cellAt (S9.box 1 rfl) 1 (v := .int .i64 2) rfl
  have b2 := cellAt (S9.box 1 rfl) 2 (v := .string ⟨#[]⟩) rfl
  have a0 := cellAt (S9.box 2 rfl) 0 (v := .int .i64 4) rfl
  have a1 := cellAt (S9.box 2 rfl) 1 (v := .int .i64 1) rfl
  have a2 := cellAt (S9.box 2 rfl) 2 (v := .string ⟨#[]⟩) rfl
  have S10 := S9.alloc (.cells #[.int .i64 4, .int .i64 2, .string ⟨#[]⟩] 41)
  have M6 := Lib.hid (kc_6 S10 4 rfl _ (sees_one KC.b rfl rfl rfl (S10.box 0 rfl)))
  clear S9 S10
  go_wp2_with fail
  refine M6.out.mono ?_
  rintro e w7 ⟨v1, rfl, S11⟩
  replace S11 : Sep w [numsR v1 [1, 2, 3], boxR x4 (.cells #[.int .i64 4, .int .i64 3, .string ⟨#[]⟩] 41), boxR x3 (.cells #[.int .i64 4, .int .i64 2, .string ⟨#[]⟩] 41), boxR x2 (.cells #[.int .i64 4, .int .i64 1, .string ⟨#[]⟩] 41), heapR h KC.H5] w7 := S11.swap.tail
  clear a0 a1 a2 b0 b1 b2 c0 c1 c2 M6
  have c0 := cellAt (S11.box 1 rfl) 0 (v := .int .i64 4) rfl
  have c1 := cellAt (S11.box 1 rfl) 1 (v := .int .i64 3) rfl
  have c2 := cellAt (S11.box 1 rfl) 2 (v := .string ⟨#[]⟩) rfl
  have b0 := cellAt (S11.box 2 rfl) 0 (v := .int .i64 4) rfl
  have b1 := cellAt (S11.box 2 rfl) 1 (v := .int .i64 2) rfl
  have b2 := cellAt (S11.box 2 rfl) 2 (v := .string ⟨#[]⟩) rfl
  have a0 := cellAt (S11.box 3 rfl) 0 (v := .int .i64 4) rfl
  have a1 := cellAt (S11.box 3 rfl) 1 (v := .int .i64 1) rfl
  have a2 := cellAt (S11.box 3 rfl) 2 (v := .string ⟨#[]⟩) rfl
  have M7 := Lib.hid (kc_7 S11 4 rfl)
  clear S11
  go_wp2_with fail
  refine M7.out.mono ?_
  rintro e w8 ⟨v2, rfl, S12⟩
  replace S12 : Sep w [numsR v2 [1, 2, 3], numsR v1 [1, 2, 3], boxR x4 (.cells #[.int .i64 4, .int .i64 3, .string ⟨#[]⟩] 41), boxR x3 (.cells #[.int .i64 4, .int .i64 2, .string ⟨#[]⟩] 41), boxR x2 (.cells #[.int .i64 4, .int .i64 1, .string ⟨#[]⟩] 41), heapR h KC.H5] w8 := S12
  clear a0 a1 a2 b0 b1 b2 c0 c1 c2 M7
  have c0 := cellAt (S12.box 2 rfl) 0 (v := .int .i64 4) rfl
  have c1 := cellAt (S12.box 2 rfl) 1 (v := .int .i64 3) rfl
  have c2 := cellAt (S12.box 2 rfl) 2 (v := .string ⟨#[]⟩) rfl
  have b0 := cellAt (S12.box 3 rfl) 0 (v := .int .i64 4) rfl
  have b1 := cellAt (S12.box 3 rfl) 1 (v := .int .i64 2) rfl
  have b2 := cellAt (S12.box 3 rfl) 2 (v := .string ⟨#[]⟩) rfl
  have a0 := cellAt (S12.box 4 rfl) 0 (v := .int .i64 4) rfl
  have a1 := cellAt (S12.box 4 rfl) 1 (v := .int .i64 1) rfl
  have a2 := cellAt (S12.box 4 rfl) 2 (v := .string ⟨#[]⟩) rfl
  have S13 := S12.alloc (.cells #[.int .i64 4, .int .i64 3, .string ⟨#[]⟩] 41)
  have M8 := Lib.hid (kc_8 S13 6 0 (by decide) rfl _ _ rfl)
  clear S12 S13
  go_wp2_with fail
  refine M8.out.mono ?_
  rintro e w9 ⟨rfl, S14⟩
  replace S14 : Sep w [numsR v2 [1, 2, 3], numsR v1 [1, 2, 3], boxR x4 (.cells #[.int .i64 4, .int .i64 3, .string ⟨#[]⟩] 41), boxR x3 (.cells #[.int .i64 4, .int .i64 2, .string ⟨#[]⟩] 41), boxR x2 (.cells #[.int .i64 4, .int .i64 1, .string ⟨#[]⟩] 41), heapR h KC.H6] w9 := S14.tail
  clear a0 a1 a2 b0 b1 b2 c0 c1 c2 M8
  have S15 := S14.alloc (.cells #[.int .i64 1, .int .i64 2, .int .i64 3] 2)
  have N1 := Lib.hid (same_numbers _ v1 _ _ _ (SeesN.of_slIs (S15.row 2 rfl)) (sees_123 (S15.box 0 rfl)) ok_123)
  replace S15 := Lib.hid S15
  clear S14
  go_wp2_with fail
  refine N1.out.mono ?_
  rintro e w10 ⟨rfl, q, rfl⟩
  have S16 := S15.out.drewN q
  obtain ⟨w11, hw11⟩ : ∃ w11, (w9.alloc (.cells #[.int .i64 1, .int .i64 2, .int .i64 3] 2)).drewN q = w11 := ⟨_, rfl⟩
  rw [hw11] at S16 ⊢
  have S17 := S16.alloc (.cells #[.int .i64 1, .int .i64 2, .int .i64 3] 2)
  have N2 := Lib.hid (same_numbers _ v2 _ _ _ (SeesN.of_slIs (S17.row 2 rfl)) (sees_123 (S17.box 0 rfl)) ok_123)
  replace S17 := Lib.hid S17
  clear S15 S16 N1 hw11
  try simp only [decide_true]
  go_wp2_with fail
  refine N2.out.mono ?_
  rintro e w12 ⟨rfl, q2, rfl⟩
  have S18 := S17.out.drewN q2
  have LV := S18.live 7 rfl (N := 240) (by have := KC.g5.freeAll [1, 2]; exact this.more (by omega)) (by omega) 0
  replace LV := Lib.hid LV
  obtain ⟨w13, hw13⟩ : ∃ w13, (w11.alloc (.cells #[.int .i64 1, .int .i64 2, .int .i64 3] 2)).drewN q2 = w13 := ⟨_, rfl⟩
  rw [hw13] at LV ⊢
  clear S17 S18 N2 hw13
  try simp only [decide_true]
  go_wp2_with fail
  refine LV.out.mono ?_
  rintro e w14 ⟨rfl, S19, -⟩
  have B := Lib.hid S19.below
  clear S19 LV
  rw [KC.lives.2.2]
  go_wp2
  go_ret
  exact ⟨rfl, B.out⟩
end Go.Proofs.Ytjinabglachglaa
