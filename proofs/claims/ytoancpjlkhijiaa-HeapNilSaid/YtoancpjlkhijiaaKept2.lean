/- The document's example is as it says. -/
import Derived.Test.YtoancpjlkhijiaaKept
namespace Go.Proofs.Ytoancpjlkhijiaa
open Go.RowKit
set_option linter.unusedVariables false
namespace K
theorem good1 : H1.Good 10 := ⟨⟨by decide, by decide, by decide⟩, by decide +kernel⟩
theorem good2 : H2.Good 10 := ⟨⟨by decide, by decide, by decide⟩, by decide +kernel⟩
theorem good3 : H3.Good 10 := ⟨⟨by decide, by decide, by decide⟩, by decide +kernel⟩
theorem good4 : H4.Good 10 := ⟨⟨by decide, by decide, by decide⟩, by decide +kernel⟩
theorem good6 : H6.Good 10 := ⟨⟨by decide, by decide, by decide⟩, by decide +kernel⟩
theorem good7 : H7.Good 10 := ⟨⟨by decide, by decide, by decide⟩, by decide +kernel⟩
end K
theorem seesTwo {w : World} {b : Nat} {x y : V} (h : w.heap[b]? = some (.cells #[.int .i64 x.kind, .int .i64 x.n, .string x.s, .int .i64 y.kind, .int .i64 y.n, .string y.s] 26)) : SeesV w (.slice (some ⟨b, 0, none⟩) 2 2) [x, y] := by
  refine ⟨_, 2, rfl, by simp, by decide, .inr ⟨b, 0, rfl, fun i v hv => ?_⟩⟩
  match i, hv with
  | 0, hv => simp at hv; subst hv; exact ⟨cellAt h 0 rfl, cellAt h 1 rfl, cellAt h 2 rfl⟩
  | 1, hv => simp at hv; subst hv; exact ⟨cellAt h 3 rfl, cellAt h 4 rfl, cellAt h 5 rfl⟩
  | i + 2, hv => simp at hv
theorem seesThree {w : World} {b : Nat} {x y z : Int} (h : w.heap[b]? = some (.cells #[.int .i64 x, .int .i64 y, .int .i64 z] 2)) : SeesN w (.slice (some ⟨b, 0, none⟩) 3 3) [x, y, z] := by
  refine ⟨_, 3, rfl, by simp, by decide, .inr ⟨b, 0, rfl, fun i v hv => ?_⟩⟩
  match i, hv with
  | 0, hv => simp at hv; subst hv; exact cellAt h 0 rfl
  | 1, hv => simp at hv; subst hv; exact cellAt h 1 rfl
  | 2, hv => simp at hv; subst hv; exact cellAt h 2 rfl
  | i + 3, hv => simp at hv
theorem seesTwoN {w : World} {b : Nat} {x y : Int} (h : w.heap[b]? = some (.cells #[.int .i64 x, .int .i64 y] 2)) : SeesN w (.slice (some ⟨b, 0, none⟩) 2 2) [x, y] := by
  refine ⟨_, 2, rfl, by simp, by decide, .inr ⟨b, 0, rfl, fun i v hv => ?_⟩⟩
  match i, hv with
  | 0, hv => simp at hv; subst hv; exact cellAt h 0 rfl
  | 1, hv => simp at hv; subst hv; exact cellAt h 1 rfl
  | i + 2, hv => simp at hv
theorem field_n (W : World) (a b : Int) (s : ByteArray) : (Instr.field 26 (.agg #[.int .i64 a, .int .i64 b, .string s]) 1).run Try.prog W = .ok (.int .i64 b) W := by kernel_rfl
theorem field_k (W : World) (a b : Int) (s : ByteArray) : (Instr.field 26 (.agg #[.int .i64 a, .int .i64 b, .string s]) 0).run Try.prog W = .ok (.int .i64 a) W := by kernel_rfl
theorem field_s (W : World) (a b : Int) (s : ByteArray) : (Instr.field 26 (.agg #[.int .i64 a, .int .i64 b, .string s]) 2).run Try.prog W = .ok (.string s) W := by kernel_rfl
set_option maxRecDepth 100000 in
set_option maxHeartbeats 1600000 in
theorem kept_ok (w : World) : Calls Try.prog 17 #[] w fun e w' => e = .returned (.bool true) ∧ Below w.heap.size w w' := by
  go_enter Try.func17, Try.ntmps17
  go_wp2_with fail
  refine (HAt.new w w (Below.refl _ _)).mono ?_
  rintro e w1 ⟨h, rfl, A1, hb1⟩
  have A1 := A1.alloc (valObj K.x)
  have C1 := A1.list K.g0 (by omega) K.oA (.slice none 0 0) (seesNil _) (by decide) rfl rfl rfl rfl
  have C1 := Lib.hid C1
  clear A1 hb1
  go_wp2_with fail
  refine C1.out.mono ?_
  rintro e w2 ⟨rfl, A2⟩
  replace A2 : HAt w h K.H1 _ w2 := A2
  have A3 := A2.alloc (valObj K.a)
  have A4 := A3.alloc (.cells #[.int .i64 4, .int .i64 1, .string ⟨#[]⟩, .int .i64 4, .int .i64 1, .string ⟨#[]⟩] 26)
  have C2 := A4.list K.good1 (by omega) K.oB (.slice (some ⟨(w2.alloc (valObj K.a)).heap.size, 0, none⟩) 2 2) (seesTwo (x := K.a) (y := K.a) (heapAllocNew _ _)) (by decide) rfl rfl rfl rfl
  rw [World.size_alloc] at C2
  rw [show K.H1.last + 1 = 2 from rfl] at C2
  have C2 := Lib.hid C2
  clear A2 A3 A4
  go_wp2_with fail
  refine C2.out.mono ?_
  rintro e w3 ⟨rfl, A5⟩
  replace A5 : HAt w h K.H2 [(w2.heap.size, valObj K.a), (w1.heap.size, valObj K.x)] w3 := A5.less (by simp)
  have A6 := A5.alloc (valObj K.b)
  -- c
  have C3 := A6.make K.good2 (by omega) K.oC (.slice none 0 0) (seesNil _) (by decide) rfl (by decide) (by decide)
  rw [show K.H2.last + 1 = 3 from rfl] at C3
  have C3 := Lib.hid C3
  clear A5 A6
  go_wp2_with fail
  refine C3.out.mono ?_
  rintro e w4 ⟨rfl, A7⟩
  replace A7 : HAt w h K.H3 _ w4 := A7
  have A8 := A7.alloc (valObj K.c)
  have C4 := A8.put K.c K.x K.c
  rw [K.p2, K.e4] at C4
  obtain ⟨x0, x1, x2, _⟩ := valBlkO (A7.box (q := w1.heap.size) (o := valObj K.x) (by simp))
  have z1 := A7.lt (w1.heap.size, valObj K.x) (by simp)
  have C4 := Lib.hid C4
  simp only [K.x] at x0 x1 x2 z1
  clear A7 A8
  go_wp2_with fail
  refine C4.out.mono ?_
  rintro e w5 ⟨rfl, A9⟩
  clear x0 x1 x2 z1
  -- counts and refs
  have C5 := A9.count K.good4 (by omega) K.a
  rw [K.n1] at C5
  have C5 := Lib.hid C5
  obtain ⟨a0, a1, a2, _⟩ := valBlkO (A9.box (q := w2.heap.size) (o := valObj K.a) (by simp))
  simp only [K.a, V.ref] at a0 a1 a2
  clear A9
  go_wp2_with fail
  refine C5.out.mono ?_
  rintro e w6 ⟨rfl, A10⟩
  clear a0 a1 a2
  have C6 := A10.refs K.good4 (by omega) K.b
  rw [K.r1] at C6
  have C6 := Lib.hid C6
  obtain ⟨b0, b1, b2, _⟩ := valBlkO (A10.box (q := w3.heap.size) (o := valObj K.b) (by simp))
  simp only [K.b, V.ref] at b0 b1 b2
  clear A10
  go_wp2_with fail
  refine C6.out.mono ?_
  rintro e w7 ⟨rs, rfl, R1, R2, A11, R3⟩
  obtain ⟨ra, rcap, rfl⟩ := R1.form
  have R1 := Lib.hid (And.intro R1 R2)
  clear R2 R3 b0 b1 b2
  have C7 := A11.count K.good4 (by omega) K.c
  rw [K.n2] at C7
  have C7 := Lib.hid C7
  obtain ⟨c0, c1, c2, _⟩ := valBlkO (A11.box (q := w4.heap.size) (o := valObj K.c) (by simp))
  simp only [K.c, V.ref] at c0 c1 c2
  clear A11
  go_wp2_with fail
  refine C7.out.mono ?_
  rintro e w8 ⟨rfl, A12⟩
  clear c0 c1 c2
  -- sweeps
  have A13 := A12.alloc (valObj K.b)
  have C8 := A13.sweep K.good4 (by omega) (.slice (some ⟨w8.heap.size, 0, none⟩) 1 1) [K.b] (seesOneO (heapAllocNew _ _)) (fun g o n c e _ => by cases e; exact .inr ⟨_, List.mem_cons_self⟩) (by simp)
  rw [K.s1] at C8
  have C8 := Lib.hid C8
  obtain ⟨b0, b1, b2, _⟩ := valBlkO (A12.box (q := w3.heap.size) (o := valObj K.b) (by simp))
  simp only [K.b, V.ref] at b0 b1 b2
  clear A12 A13
  go_wp2_with fail
  refine C8.out.mono ?_
  rintro e w9 ⟨⟨f8, rfl, hf8⟩, A14⟩
  have hf8' : f8 = 0 := by omega
  subst hf8'
  clear b0 b1 b2 hf8
  have C9 := A14.sweep K.good4 (by omega) (.slice none 0 0) [] (seesNil _) (fun g o n c e _ => by cases e) (by simp)
  rw [K.s2] at C9
  have C9 := Lib.hid C9
  clear A14
  go_wp2_with fail
  refine C9.out.mono ?_
  rintro e w10 ⟨⟨f9, rfl, hf9⟩, A15⟩
  have hf9' : f9 = 2 := by have : f9 + 1 = 3 := hf9; omega
  subst hf9'
  clear hf9
  have C10 := A15.name K.c
  rw [K.m1] at C10
  have C10 := Lib.hid C10
  obtain ⟨c0, c1, c2, _⟩ := valBlkO (A15.box (q := w4.heap.size) (o := valObj K.c) (by simp))
  simp only [K.c, V.ref] at c0 c1 c2
  clear A15
  go_wp2_with fail
  refine C10.out.mono ?_
  rintro e w11 ⟨rfl, A16⟩
  clear c0 c1 c2
  have A17 := A16.alloc (.cells #[.int .i64 3, .int .i64 3, .int .i64 9] 2)
  have C11 := A17.free K.good6 (by omega) (.slice (some ⟨w11.heap.size, 0, none⟩) 3 3) [3, 3, 9] (seesThree (heapAllocNew _ _)) (fun g o n c e _ => by cases e; exact .inr ⟨_, List.mem_cons_self⟩) (by decide)
  rw [K.f1, K.f2] at C11
  have C11 := Lib.hid C11
  clear A16 A17
  go_wp2_with fail
  refine C11.out.mono ?_
  rintro e w12 ⟨rfl, A18⟩
  -- the answer
  have R2 : slIs w12 2 1 intCell (.slice ra [1, 1].length rcap) [1, 1] := A18.keepSl R1.out.1 (fun p hp => List.mem_cons_of_mem _ (List.mem_cons_of_mem _ (List.mem_append_left _ hp)))
  have C12 := same_numbers (w12.alloc (.cells #[.int .i64 1, .int .i64 1] 2)) (.slice ra [(1 : Int), 1].length rcap) (.slice (some ⟨w12.heap.size, 0, none⟩) 2 2) [1, 1] [1, 1] (SeesN.of_slIs (R2.alloc _)) (seesTwoN (heapAllocNew _ _)) (by decide)
  simp only [decide_true] at C12
  have C12 := Lib.hid C12
  have A18 := Lib.hid A18
  obtain ⟨a0, a1, a2, _⟩ := valBlkO (A18.out.box (q := w2.heap.size) (o := valObj K.a) (by simp))
  simp only [K.a, V.ref] at a0 a1 a2
  obtain ⟨b0, b1, b2, _⟩ := valBlkO (A18.out.box (q := w3.heap.size) (o := valObj K.b) (by simp))
  simp only [K.b, V.ref] at b0 b1 b2
  clear R2
  go_wp2_with fail
  refine C12.out.mono ?_
  rintro e w13 ⟨rfl, n13, hw13⟩
  have A19 := (A18.out.alloc (.cells #[.int .i64 1, .int .i64 1] 2)).later (Below.drewN (Below.refl _ _) n13)
  rw [← hw13] at A19
  clear hw13 a0 a1 a2 b0 b1 b2
  have C13 := A19.kind K.c
  rw [K.k1] at C13
  have C13 := Lib.hid C13
  obtain ⟨c0, c1, c2, _⟩ := valBlkO (A19.box (q := w4.heap.size) (o := valObj K.c) (by simp))
  simp only [K.c, V.ref] at c0 c1 c2
  clear A19
  go_wp2_with fail
  refine C13.out.mono ?_
  rintro e w14 ⟨rfl, A20⟩
  clear c0 c1 c2
  have C14 := A20.live K.good7 (by omega) 0
  rw [K.l1] at C14
  have C14 := Lib.hid C14
  clear A20
  go_wp2_with fail
  refine C14.out.mono ?_
  rintro e w15 ⟨rfl, A21⟩
  have C15 := A21.makeNo 0 0 ⟨#[]⟩ none 0 0 (by omega)
  have C15 := Lib.hid C15
  clear A21
  go_wp2_with fail
  refine C15.out.mono ?_
  rintro e w16 ⟨rfl, A22⟩
  simp only [V.zero, V.val]
  have C16 := A22.list K.good7 (by omega) K.oA (.slice none 0 0) (seesNil _) (by decide) rfl rfl rfl rfl
  rw [show K.H7.last + 1 = 4 from rfl] at C16
  have C16 := Lib.hid C16
  clear A22
  go_wp2_with fail
  refine C16.out.mono ?_
  rintro e w17 ⟨rfl, A23⟩
  have HB := Lib.hid A23.below
  clear A23
  have hfld := fun W => field_n W 4 4 ⟨#[]⟩
  go_wp2
  go_ret
  exact ⟨rfl, HB.out⟩
end Go.Proofs.Ytoancpjlkhijiaa
