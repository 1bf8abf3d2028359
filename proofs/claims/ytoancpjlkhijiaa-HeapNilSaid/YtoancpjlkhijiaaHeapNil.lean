/-
  HeapNil: every method of a nil heap answers as if there were no object. No condition.
-/
import Derived.Test.YtoancpjlkhijiaaNilA
namespace Go.Proofs.Ytoancpjlkhijiaa.heapNil
open Go.ChangeShapes Go.WideShapes Go.ChangeAt Go.RowKit
set_option linter.unusedVariables false
def zObj : Obj := .cells #[.int .i64 0, .int .i64 0, .string ⟨#[]⟩] 26
/-- The operation and the three results, where they lie. -/
def At3 (w : World) (o : OpM) (b5 b6 b8 : Nat) (W : World) : Prop :=
  W.heap[w.heap.size]? = some o.obj ∧ W.heap[b5]? = some zObj ∧ W.heap[b6]? = some zObj ∧ W.heap[b8]? = some zObj ∧ Below w.heap.size w W
theorem At3.later {w : World} {o : OpM} {b5 b6 b8 : Nat} {W W' : World} (h : At3 w o b5 b6 b8 W) (hb : Below W.heap.size W W') : At3 w o b5 b6 b8 W' :=
  ⟨blockBelow h.1 hb, blockBelow h.2.1 hb, blockBelow h.2.2.1 hb, blockBelow h.2.2.2.1 hb, Below.next h.2.2.2.2 hb h.2.2.2.2.size⟩
set_option maxRecDepth 100000 in
set_option maxHeartbeats 3200000 in
theorem walk (w : World) (o : OpM) (hin : o.In w) (hlen : o.l.length ≤ 8796093022208) :
    Calls Try.prog 11 #[o.val] w fun e w' => e = .returned (.bool true) ∧ Below w.heap.size w w' := by
  have CD : Hid (Calls Try.prog 26 #[.pointer none, o.val] (w.alloc o.obj) fun e w' => e = .returned (.tuple #[.int .i64 0, .agg #[.int .i64 0, .int .i64 0, .string ⟨#[]⟩]]) ∧ Below (w.alloc o.obj).heap.size (w.alloc o.obj) w') := Lib.hid ((nil_do (w.alloc o.obj) o (hin.1.keep fun p u hp => cellAlloc hp o.obj) hlen).mono fun e w' h => h)
  have CA := Lib.hid (fun W => nil_at W o.v o.i)
  have CG := Lib.hid (fun W => nil_get W o.v o.k)
  have HV := Lib.hid (fun (W : World) (b : Nat) (h : W.heap[b]? = some o.obj) => opBlk h)
  have B0 := Lib.hid (Below.refl w.heap.size w)
  clear hin hlen
  have HO : Hid (∀ w1, Below (w.alloc o.obj).heap.size (w.alloc o.obj) w1 → w1.heap[w.heap.size]? = some o.obj ∧ Below w.heap.size w w1) := Lib.hid fun w1 hb => ⟨boxAt hb, belowThen hb⟩
  have CKind := Lib.hid (fun W => nil_kind W o.v)
  have CName := Lib.hid (fun W => nil_name W o.v)
  have CNum := Lib.hid (fun W => nil_num W o.v)
  have CItems := Lib.hid (fun W => nil_items W o.v)
  have CLen := Lib.hid (fun W => nil_len W o.v)
  have CKeys := Lib.hid (fun W => nil_keys W o.v)
  have CSize := Lib.hid (fun W => nil_size W o.v)
  have CCount := Lib.hid (fun W => nil_count W o.v)
  have CRefs := Lib.hid (fun W => nil_refs W o.v)
  have CLive := Lib.hid (fun W => nil_live W o.kd)
  obtain ⟨d, kd, i, j, nm, n, v, k, x, a, l, cap, hd', h2', h3', h4', hn, h6'⟩ := o
  simp only [OpM.val, OpM.obj, V.val, V.zero] at *
  clear hd' h2' h3' h4' hn h6'
  go_enter Try.func11, Try.ntmps11
  go_wp2_with fail
  refine CD.out.mono ?_
  rintro e w1 ⟨rfl, hb1⟩
  obtain ⟨ho1, hB1⟩ := HO.out w1 hb1
  have HB1 := Lib.hid hB1
  have HO1 := Lib.hid ho1
  obtain ⟨⟨-, -, c2, -, -, -⟩, ⟨v0, v1, v2⟩, -⟩ := HV.out w1 _ ho1
  have hz1 := blockLt ho1
  clear hb1 hB1 ho1
  go_wp2_with fail
  refine (CA.out _).mono ?_
  rintro e w2 ⟨rfl, hb2⟩
  have z5 := boxAt hb2
  have ho2 := blockBelow (blockAlloc HO1.out) hb2
  have HB2 := Lib.hid (Below.next HB1.out (belowThen hb2) HB1.out.size)
  have hz2 := blockLt ho2
  have HZ5 := Lib.hid z5
  have HO2 := Lib.hid ho2
  clear c2 v0 v1 v2 hz1
  obtain ⟨-, ⟨v0, v1, v2⟩, ⟨k0, k1, k2⟩, -⟩ := HV.out w2 _ ho2
  clear z5 ho2 hb2
  go_wp2_with fail
  refine (CG.out _).mono ?_
  rintro e w3 ⟨rfl, hb3⟩
  have z6 := boxAt hb3
  have ho3 := blockBelow (blockAlloc HO2.out) hb3
  have z5 := blockBelow (blockAlloc HZ5.out) hb3
  have HB3 := Lib.hid (Below.next HB2.out (belowThen hb3) HB2.out.size)
  have HZ6 := Lib.hid z6
  replace HZ5 := Lib.hid z5
  have HO3 := Lib.hid ho3
  clear v0 v1 v2 k0 k1 k2 hz2 z5 z6 ho3 hb3
  go_wp2_with fail
  refine (kept_ok _).mono ?_
  rintro e w4 ⟨rfl, hb4⟩
  have z8 := boxAt hb4
  have ho4 := blockBelow (blockAlloc HO3.out) hb4
  have z5 := blockBelow (blockAlloc HZ5.out) hb4
  have z6 := blockBelow (blockAlloc HZ6.out) hb4
  have HB4 := Lib.hid (Below.next HB3.out (belowThen hb4) HB3.out.size)
  have HO4 := Lib.hid ho4
  obtain ⟨p0, p1, p2, -⟩ := valBlk z5
  obtain ⟨q0, q1, q2, -⟩ := valBlk z6
  obtain ⟨r0, r1, r2, -⟩ := valBlk z8
  obtain ⟨-, ⟨v0, v1, v2⟩, -⟩ := HV.out w4 _ ho4
  have P := Lib.hid (And.intro ho4 HB4.out)
  clear hb4 z5 z6 z8 ho4 HZ5 HZ6 HO1 HO2 HO3 HO4 HB1 HB2 HB3 HB4
  go_wp2_with fail
  refine (CKind.out _).mono ?_
  rintro e w5 ⟨rfl, hb⟩
  replace P := Lib.hid (And.intro (blockBelow P.out.1 hb) (Below.next P.out.2 hb P.out.2.size))
  clear hb p0 p1 p2 q0 q1 q2 r0 r1 r2 v0 v1 v2
  obtain ⟨-, ⟨v0, v1, v2⟩, -⟩ := HV.out w5 _ P.out.1
  go_wp2_with fail
  refine (CName.out _).mono ?_
  rintro e w6 ⟨rfl, hb⟩
  replace P := Lib.hid (And.intro (blockBelow P.out.1 hb) (Below.next P.out.2 hb P.out.2.size))
  clear hb v0 v1 v2
  obtain ⟨-, ⟨v0, v1, v2⟩, -⟩ := HV.out w6 _ P.out.1
  go_wp2_with fail
  refine (CNum.out _).mono ?_
  rintro e w7 ⟨rfl, hb⟩
  replace P := Lib.hid (And.intro (blockBelow P.out.1 hb) (Below.next P.out.2 hb P.out.2.size))
  clear hb v0 v1 v2
  obtain ⟨-, ⟨v0, v1, v2⟩, -⟩ := HV.out w7 _ P.out.1
  go_wp2_with fail
  refine (CItems.out _).mono ?_
  rintro e w8 ⟨rfl, hb⟩
  replace P := Lib.hid (And.intro (blockBelow P.out.1 hb) (Below.next P.out.2 hb P.out.2.size))
  clear hb v0 v1 v2
  obtain ⟨-, ⟨v0, v1, v2⟩, -⟩ := HV.out w8 _ P.out.1
  go_wp2_with fail
  refine (CLen.out _).mono ?_
  rintro e w9 ⟨rfl, hb⟩
  replace P := Lib.hid (And.intro (blockBelow P.out.1 hb) (Below.next P.out.2 hb P.out.2.size))
  clear hb v0 v1 v2
  obtain ⟨-, ⟨v0, v1, v2⟩, -⟩ := HV.out w9 _ P.out.1
  go_wp2_with fail
  refine (CKeys.out _).mono ?_
  rintro e w10 ⟨rfl, hb⟩
  replace P := Lib.hid (And.intro (blockBelow P.out.1 hb) (Below.next P.out.2 hb P.out.2.size))
  clear hb v0 v1 v2
  obtain ⟨-, ⟨v0, v1, v2⟩, -⟩ := HV.out w10 _ P.out.1
  go_wp2_with fail
  refine (CSize.out _).mono ?_
  rintro e w11 ⟨rfl, hb⟩
  replace P := Lib.hid (And.intro (blockBelow P.out.1 hb) (Below.next P.out.2 hb P.out.2.size))
  clear hb v0 v1 v2
  obtain ⟨-, ⟨v0, v1, v2⟩, -⟩ := HV.out w11 _ P.out.1
  go_wp2_with fail
  refine (CCount.out _).mono ?_
  rintro e w12 ⟨rfl, hb⟩
  replace P := Lib.hid (And.intro (blockBelow P.out.1 hb) (Below.next P.out.2 hb P.out.2.size))
  clear hb v0 v1 v2
  obtain ⟨-, ⟨v0, v1, v2⟩, -⟩ := HV.out w12 _ P.out.1
  go_wp2_with fail
  refine (CRefs.out _).mono ?_
  rintro e w13 ⟨rfl, hb⟩
  replace P := Lib.hid (And.intro (blockBelow P.out.1 hb) (Below.next P.out.2 hb P.out.2.size))
  clear hb v0 v1 v2
  obtain ⟨⟨-, c1, -, -, -, -⟩, -⟩ := HV.out w13 _ P.out.1
  go_wp2_with fail
  refine (CLive.out _).mono ?_
  rintro e w14 ⟨rfl, hb⟩
  replace P := Lib.hid (And.intro (blockBelow P.out.1 hb) (Below.next P.out.2 hb P.out.2.size))
  clear hb c1
  go_wp2_with fail
  refine (nil_all _).mono ?_
  rintro e w15 ⟨rfl, hb⟩
  have HB := Lib.hid (Below.next P.out.2 hb P.out.2.size)
  clear hb
  go_wp2
  go_ret
  exact ⟨rfl, HB.out⟩
set_option maxRecDepth 100000 in
theorem lifted (os : Os) (started : os.Started) (H : Type) (enc : TypeId × Value → H) :
    ReturnsInHanded {} Try.checked os 11 .any (Rows.heapNilSpec.pre6 enc Try.prog Try.f11 Rows.heapNilRow.domain false) (Rows.heapNilSpec.post enc Try.prog Try.f11 false true false false) := by
  refine law_lift (C := Try.checked) own started (by kernel_rfl) Try.func11
    (ChangeSpec.witness6 (enc := enc) (C := Try.checked) false ⟨#[], #[.agg #[.int .i64 0, .int .i64 0, .int .i64 0, .int .i64 0, .string ⟨#[]⟩, .int .i64 0, .int .i64 0, .int .i64 0, .string ⟨#[]⟩, .int .i64 0, .int .i64 0, .string ⟨#[]⟩, .int .i64 0, .int .i64 0, .string ⟨#[]⟩, .slice none 0 0]], []⟩ 8 (by kernel_rfl) (by kernel_rfl) (by kernel_rfl) (by kernel_rfl))
    (by kernel_rfl) (by kernel_rfl) rfl (fun ds h => by
      match ds, h with
      | [d1], _ => exact ⟨rfl, rfl, rfl⟩) rfl Try.underlying4 ?_
  intro W base args ds ps hval hA hlt hwt hsh
  rw [Try.params11] at hA hval
  obtain ⟨v0, vs0, d0, ds0, p0, q0, hargs, rfl, rfl, h0, r0⟩ := trodAll_cons hA
  obtain ⟨rfl, rfl, rfl⟩ := trodAll_nil r0
  obtain rfl : args = #[v0] := by cases args; simp_all
  obtain ⟨cs0, rfl, hsz0⟩ := okWide_struct Try.underlying51 (hval 0 51 v0 rfl rfl)
  obtain ⟨fuel0, hf0⟩ := h0
  obtain ⟨o0, e0, n0, wt0⟩ := op_of_trod (cs := cs0.toList) hf0
  have hl0 := wt0 (fun m hm => by have := List.all_eq_true.1 hwt m (DataW.weights_mem_each (j := 0) (t := 51) rfl rfl _ hm); simpa using this)
  obtain rfl : cs0 = o0.cells.toArray := by rw [← e0]
  -- WALK
  exact (walk W o0 n0 hl0).mono fun e w' h => h
theorem proved : Rows.HeapNilSaid :=
  OpenClaim.holds_of_wide 11 Try.f11 rfl rfl rfl rfl rfl rfl rfl ⟨rfl, rfl, rfl, rfl, rfl⟩ rfl rfl rfl rfl rfl (by kernel_rfl) Try.func11 (by kernel_rfl)
    (of_decide_eq_true (by kernel_rfl)) (by unfold Func.isWrapper; first | (rw [if_pos (by decide +kernel)]; kernel_rfl) | (rw [if_neg (by decide +kernel)]; exact ⟨rfl, rfl⟩))
    (fun os started H enc _ => lifted os started H enc)
#print axioms proved
end Go.Proofs.Ytoancpjlkhijiaa.heapNil
