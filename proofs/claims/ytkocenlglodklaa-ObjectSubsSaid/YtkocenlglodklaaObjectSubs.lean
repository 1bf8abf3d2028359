/-
  ObjectSubs: for any classes, and any three of them, the law returns true: a class comes of itself; of its bases, and of all these come of; of nothing else; what comes of another one, has all that one finds. No condition.
-/
import Derived.Test.YtkocenlglodklaaShowC
import Derived.Test.YtkocenlglodklaaMade14
import Derived.Test.YtkocenlglodklaaLocal
import Derived.Test.YtkocenlglodklaaIn14
namespace Go.Proofs.Ytkocenlglodklaa.objectSubs
set_option linter.unusedSimpArgs false
open Go.ChangeShapes Go.WideShapes Go.ChangeAt Go.RowKit
open Go.ChangeMaps (open_string)
set_option linter.unusedVariables false
theorem subM_mem {H : HeapM} {a b : V} (hb : H.isClass b = true) (hr : b = b.asRef) : H.subM a b = decide (b ∈ H.order a) := by
  unfold HeapM.subM; rw [hb, ← hr]; rfl
theorem subM_self {H : HeapM} (C : H.Cls) {a : V} (ha : H.isClass a = true) (hr : a = a.asRef) : H.subM a a = true := by
  rw [subM_mem ha hr, C.order ha, ← hr]; simp
theorem subM_tr {H : HeapM} (C : H.Cls) {a b c : V} (hb : H.isClass b = true) (hbr : b = b.asRef) (hc : H.isClass c = true) (hcr : c = c.asRef) (h1 : H.subM a b = true) (h2 : H.subM b c = true) : H.subM a c = true := by
  rw [subM_mem hb hbr, decide_eq_true_eq] at h1
  rw [subM_mem hc hcr, decide_eq_true_eq] at h2 ⊢
  exact C.sub h1 c h2
theorem subM_anti {H : HeapM} (C : H.Cls) {a b : V} (ha : H.isClass a = true) (har : a = a.asRef) (hb : H.isClass b = true) (hbr : b = b.asRef) (h1 : H.subM a b = true) (h2 : H.subM b a = true) : a = b := by
  rw [subM_mem hb hbr, decide_eq_true_eq] at h1
  rw [subM_mem ha har, decide_eq_true_eq] at h2
  have m1 := C.order_mem h1
  have m2 := C.order_mem h2
  have := m1.2.2.2.2 (by omega)
  rw [this, ← har]
theorem find_sub {H : HeapM} (C : H.Cls) {a b k : V} (hb : b ∈ H.order a) (h : (H.find b k).isSome = true) : (H.find a k).isSome = true := by
  unfold HeapM.find at h ⊢
  rw [List.findSome?_isSome_iff] at h ⊢
  obtain ⟨x, hx, h1⟩ := h
  exact ⟨x, C.sub hb x hx, h1⟩
theorem okWide_array {P : Program} {w : World} {r : Reach} {base : Nat} {t e : TypeId} {n : Nat} {v : Value} (ht : P.underlying t = some (.array n e)) (h : Value.okWide P w r base t v) : ∃ cs, v = .agg cs ∧ cs.size = P.cellsOf t := by
  simp only [Value.okWide, ht] at h
  obtain ⟨cs, h1, h2, _⟩ := h
  exact ⟨cs, h1, h2⟩
set_option maxRecDepth 100000 in
theorem ints3_of_trod {HT : Type} {enc : TypeId × Value → HT} {w : World} {base : Nat} {spare : Nat → Bool} {held : Bool} {n : Nat} {cs : List Value} {y : DataW HT × List MemPlace} (h : DataW.trod enc Try.prog w base spare held n 26 cs = some y) : ∃ a b c : Int, cs = [.int .i64 a, .int .i64 b, .int .i64 c] := by
  obtain ⟨xs, n', _, hx, hlen, hxl, hf⟩ := DataW.trod_array Try.underlying26 h
  have hc : Try.prog.cellsOf 26 = 3 ∧ Try.prog.cellsOf 3 = 1 := ⟨by kernel_rfl, by kernel_rfl⟩
  rw [hc.1] at hlen
  match cs, hlen with
  | [c0, c1, c2], _ =>
    match xs, hxl with
    | [y0, y1, y2], _ =>
      have h0 : DataW.trod enc Try.prog w base spare held n' 3 [c0] = some y0 := by have := hf 0 (by omega); simpa [hc.2] using this
      have h1 : DataW.trod enc Try.prog w base spare held n' 3 [c1] = some y1 := by have := hf 1 (by omega); simpa [hc.2] using this
      have h2 : DataW.trod enc Try.prog w base spare held n' 3 [c2] = some y2 := by have := hf 2 (by omega); simpa [hc.2] using this
      obtain ⟨k0, e0, _, _⟩ := DataW.trod_int Try.underlying3 h0
      obtain ⟨k1, e1, _, _⟩ := DataW.trod_int Try.underlying3 h1
      obtain ⟨k2, e2, _, _⟩ := DataW.trod_int Try.underlying3 h2
      simp only [List.cons.injEq, and_true] at e0 e1 e2
      exact ⟨k0, k1, k2, by rw [e0, e1, e2]⟩
section
variable {w W : World} {Rs : List Res} {h : Nat} {H : HeapM}
theorem kh_ord (S : Sep w Rs W) (i : Nat) (hi : Rs[i]? = some (heapR h H)) {N : Nat} (G : H.Good N) (hN : N ≤ 4000000) (v : V) (L : List V) (hL : H.order v = L) :
    Calls Try.prog 15 #[.pointer (some ⟨h, 0, none⟩), .agg #[.int .i64 v.kind, .int .i64 v.n, .string v.s]] W fun e W' => ∃ a c, e = .returned (.slice a L.length c) ∧ Sep w (valsR (.slice a L.length c) L :: Rs) W' := by
  refine (order_list S i hi G hN v).mono fun e W' ⟨sv, h1, h2⟩ => ?_
  rw [hL] at h2
  obtain ⟨a, c, hsv⟩ := (h2.row 0 rfl).form
  rw [hsv] at h1 h2
  exact ⟨a, c, h1, h2⟩
theorem ks_sub (S : Sep w Rs W) (i : Nat) (hi : Rs[i]? = some (heapR h H)) {N : Nat} (G : H.Good N) (hN : N ≤ 4000000) (v u : V) (b : Bool) (hb : H.subM v u = b) :
    Calls Try.prog 14 #[.pointer (some ⟨h, 0, none⟩), .agg #[.int .i64 v.kind, .int .i64 v.n, .string v.s], .agg #[.int .i64 u.kind, .int .i64 u.n, .string u.s]] W fun e W' => e = .returned (.bool b) ∧ Sep w Rs W' := by
  have := sub_ok S i hi G hN v u
  rw [hb] at this
  exact this
theorem ks_find (S : Sep w Rs W) (i : Nat) (hi : Rs[i]? = some (heapR h H)) {N : Nat} (G : H.Good N) (hN : N ≤ 4000000) (v : V) (s : ByteArray) (hs : s.size ≤ maxLen) (g : Option V) (hg : H.find v (keyS s hs) = g) :
    Calls Try.prog 16 #[.pointer (some ⟨h, 0, none⟩), .agg #[.int .i64 v.kind, .int .i64 v.n, .string v.s], .string s] W fun e W' => e = .returned (.tuple #[.agg #[.int .i64 (g.getD V.zero).kind, .int .i64 (g.getD V.zero).n, .string (g.getD V.zero).s], .bool g.isSome]) ∧ Sep w Rs W' := by
  have := find_ok S i hi G hN v s hs
  rw [hg] at this
  exact this
theorem ks_inst (S : Sep w Rs W) (i : Nat) (hi : Rs[i]? = some (heapR h H)) {N : Nat} (F : H.Fit N) (hN : N + 1 ≤ 4000000) (v : V) (hc : H.isClass v = true) :
    Calls Try.prog 18 #[.pointer (some ⟨h, 0, none⟩), .agg #[.int .i64 v.kind, .int .i64 v.n, .string v.s]] W fun e W' => e = .returned (.tuple #[.agg #[.int .i64 4, .int .i64 (H.last + 1), .string ⟨#[]⟩], .bool true]) ∧ Sep w (Rs.set i (heapR h (H.add (instO (H.name v) (HeapM.name_le H v) v)))) W' :=
  instance_ok S i hi F hN v (HeapM.name_le H v) hc
end
set_option maxRecDepth 100000 in
set_option maxHeartbeats 12800000 in
theorem walk (w : World) (sB sH : Value) (B : SomeIn w sB sH) (i0 i1 i2 : Int) :
    Calls Try.prog 3 #[.agg #[sB, sH], .agg #[.int .i64 i0, .int .i64 i1, .int .i64 i2]] w fun e W' => e = .returned (.bool true) ∧ Below w.heap.size w W' := by
  obtain ⟨b, hb⟩ : ∃ gx_, (w.heap.size) = gx_ := ⟨_, rfl⟩
  have S := ((Sep.start (Below.refl w.heap.size w)).alloc (.cells #[sB, sH] 25)).alloc (.cells #[.int .i64 i0, .int .i64 i1, .int .i64 i2] 26)
  simp only [World.size_alloc, hb] at S
  replace S : Sep w (boxR (b + 1) (.cells #[.int .i64 i0, .int .i64 i1, .int .i64 i2] 26) :: boxR b (.cells #[sB, sH] 25) :: []) _ := S
  have M0 := Lib.hid ((shown_ok ((w.alloc (.cells #[sB, sH] 25)).alloc (.cells #[.int .i64 i0, .int .i64 i1, .int .i64 i2] 26))).mono fun e W1 (hh : _ ∧ _) => (⟨hh.1, S.later hh.2⟩ : _ ∧ Sep w (boxR (b + 1) (.cells #[.int .i64 i0, .int .i64 i1, .int .i64 i2] 26) :: boxR b (.cells #[sB, sH] 25) :: []) W1))
  clear S
  go_enter Try.func3, Try.ntmps3
  go_wp2_with fail
  try simp only [hb]
  refine M0.out.mono ?_
  rintro e w1 ⟨rfl, S⟩
  clear M0 hb
  have d0 := cellAt (S.box (b := b) 1 rfl) 0 (v := sB) rfl
  have d1 := cellAt (S.box (b := b) 1 rfl) 1 (v := sH) rfl
  have MM := Lib.hid (B.made S)
  clear S
  go_wp2_with fail
  refine MM.out.mono ?_
  rintro e w2 ⟨h, oa, oc, H, out, rfl, M, S⟩
  clear MM B d0 d1
  replace S : Sep w (valsR (.slice oa out.length oc) out :: heapR h H :: boxR (b + 1) (.cells #[.int .i64 i0, .int .i64 i1, .int .i64 i2] 26) :: boxR b (.cells #[sB, sH] 25) :: []) _ := S
  by_cases hl : out = []
  · have hl0 : out.length = 0 := by rw [hl]; rfl
    replace S := Lib.hid S.below
    rw [hl0]
    clear M hl hl0
    go_wp2
    go_ret
    exact ⟨rfl, S.out⟩
  have hl1 : ¬ out.length = 0 := fun e => hl (List.length_eq_zero_iff.1 e)
  have hl2 : ((out.length : Int) == 0) = false := by simp; exact hl
  have HM := Lib.hid M
  have HO := Lib.hid hl
  have C := pick_ok w2 _ out i0 (S.row 0 rfl).sees'
  have hmca := HM.out.mem _ (pickV_mem HO.out i0)
  obtain ⟨ca, hc⟩ : ∃ gx_, (pickV out i0) = gx_ := ⟨_, rfl⟩
  rw [hc] at hmca C
  have Hca := Lib.hid hmca
  have d0 := cellAt (S.box (b := b + 1) 2 rfl) 0 (v := .int .i64 i0) rfl
  have d1 := cellAt (S.box (b := b + 1) 2 rfl) 1 (v := .int .i64 i1) rfl
  have d2 := cellAt (S.box (b := b + 1) 2 rfl) 2 (v := .int .i64 i2) rfl
  have M1 := Lib.hid (C.mono fun e W1 (hh : _ ∧ _) => (⟨hh.1, S.later hh.2⟩ : _ ∧ Sep w (valsR (.slice oa out.length oc) out :: heapR h H :: boxR (b + 1) (.cells #[.int .i64 i0, .int .i64 i1, .int .i64 i2] 26) :: boxR b (.cells #[sB, sH] 25) :: []) W1))
  simp only [V.val] at M1
  clear S C hc hmca M hl
  go_wp2_with fail
  refine M1.out.mono ?_
  rintro e w3 ⟨rfl, S⟩
  clear M1 d0 d1 d2 hl1 hl2
  obtain ⟨x8, hx8⟩ : ∃ gx_, (w3.heap.size) = gx_ := ⟨_, rfl⟩
  replace S := (S.alloc (.cells #[.int .i64 ca.kind, .int .i64 ca.n, .string ca.s] 33))
  simp only [World.size_alloc, hx8] at S
  replace S : Sep w (boxR x8 (.cells #[.int .i64 ca.kind, .int .i64 ca.n, .string ca.s] 33) :: valsR (.slice oa out.length oc) out :: heapR h H :: boxR (b + 1) (.cells #[.int .i64 i0, .int .i64 i1, .int .i64 i2] 26) :: boxR b (.cells #[sB, sH] 25) :: []) _ := S
  have C := pick_ok (w3.alloc (.cells #[.int .i64 ca.kind, .int .i64 ca.n, .string ca.s] 33)) _ out i1 (S.row 1 rfl).sees'
  have hmcb := HM.out.mem _ (pickV_mem HO.out i1)
  obtain ⟨cb, hc⟩ : ∃ gx_, (pickV out i1) = gx_ := ⟨_, rfl⟩
  rw [hc] at hmcb C
  have Hcb := Lib.hid hmcb
  have d0 := cellAt (S.box (b := b + 1) 3 rfl) 0 (v := .int .i64 i0) rfl
  have d1 := cellAt (S.box (b := b + 1) 3 rfl) 1 (v := .int .i64 i1) rfl
  have d2 := cellAt (S.box (b := b + 1) 3 rfl) 2 (v := .int .i64 i2) rfl
  have M1 := Lib.hid (C.mono fun e W1 (hh : _ ∧ _) => (⟨hh.1, S.later hh.2⟩ : _ ∧ Sep w (boxR x8 (.cells #[.int .i64 ca.kind, .int .i64 ca.n, .string ca.s] 33) :: valsR (.slice oa out.length oc) out :: heapR h H :: boxR (b + 1) (.cells #[.int .i64 i0, .int .i64 i1, .int .i64 i2] 26) :: boxR b (.cells #[sB, sH] 25) :: []) W1))
  simp only [V.val] at M1
  clear S C hc hmcb
  go_wp2_with fail
  try simp only [hx8]
  refine M1.out.mono ?_
  rintro e w4 ⟨rfl, S⟩
  clear M1 d0 d1 d2 hx8
  obtain ⟨x9, hx9⟩ : ∃ gx_, (w4.heap.size) = gx_ := ⟨_, rfl⟩
  replace S := (S.alloc (.cells #[.int .i64 cb.kind, .int .i64 cb.n, .string cb.s] 33))
  simp only [World.size_alloc, hx9] at S
  replace S : Sep w (boxR x9 (.cells #[.int .i64 cb.kind, .int .i64 cb.n, .string cb.s] 33) :: boxR x8 (.cells #[.int .i64 ca.kind, .int .i64 ca.n, .string ca.s] 33) :: valsR (.slice oa out.length oc) out :: heapR h H :: boxR (b + 1) (.cells #[.int .i64 i0, .int .i64 i1, .int .i64 i2] 26) :: boxR b (.cells #[sB, sH] 25) :: []) _ := S
  have C := pick_ok (w4.alloc (.cells #[.int .i64 cb.kind, .int .i64 cb.n, .string cb.s] 33)) _ out i2 (S.row 2 rfl).sees'
  have hmcc := HM.out.mem _ (pickV_mem HO.out i2)
  obtain ⟨cc, hc⟩ : ∃ gx_, (pickV out i2) = gx_ := ⟨_, rfl⟩
  rw [hc] at hmcc C
  have Hcc := Lib.hid hmcc
  have d0 := cellAt (S.box (b := b + 1) 4 rfl) 0 (v := .int .i64 i0) rfl
  have d1 := cellAt (S.box (b := b + 1) 4 rfl) 1 (v := .int .i64 i1) rfl
  have d2 := cellAt (S.box (b := b + 1) 4 rfl) 2 (v := .int .i64 i2) rfl
  have M1 := Lib.hid (C.mono fun e W1 (hh : _ ∧ _) => (⟨hh.1, S.later hh.2⟩ : _ ∧ Sep w (boxR x9 (.cells #[.int .i64 cb.kind, .int .i64 cb.n, .string cb.s] 33) :: boxR x8 (.cells #[.int .i64 ca.kind, .int .i64 ca.n, .string ca.s] 33) :: valsR (.slice oa out.length oc) out :: heapR h H :: boxR (b + 1) (.cells #[.int .i64 i0, .int .i64 i1, .int .i64 i2] 26) :: boxR b (.cells #[sB, sH] 25) :: []) W1))
  simp only [V.val] at M1
  clear S C hc hmcc
  go_wp2_with fail
  try simp only [hx9]
  refine M1.out.mono ?_
  rintro e w5 ⟨rfl, S⟩
  clear M1 d0 d1 d2 hx9
  obtain ⟨x10, hx10⟩ : ∃ gx_, (w5.heap.size) = gx_ := ⟨_, rfl⟩
  replace S := (S.alloc (.cells #[.int .i64 cc.kind, .int .i64 cc.n, .string cc.s] 33))
  simp only [World.size_alloc, hx10] at S
  replace S : Sep w (boxR x10 (.cells #[.int .i64 cc.kind, .int .i64 cc.n, .string cc.s] 33) :: boxR x9 (.cells #[.int .i64 cb.kind, .int .i64 cb.n, .string cb.s] 33) :: boxR x8 (.cells #[.int .i64 ca.kind, .int .i64 ca.n, .string ca.s] 33) :: valsR (.slice oa out.length oc) out :: heapR h H :: boxR (b + 1) (.cells #[.int .i64 i0, .int .i64 i1, .int .i64 i2] 26) :: boxR b (.cells #[sB, sH] 25) :: []) _ := S
  obtain ⟨AB, hAB⟩ : ∃ gx_, (H.subM ca cb) = gx_ := ⟨_, rfl⟩
  have HAB := Lib.hid hAB
  clear hAB
  have d0 := cellAt (S.box (b := x8) 2 rfl) 0 (v := .int .i64 ca.kind) rfl
  have d1 := cellAt (S.box (b := x8) 2 rfl) 1 (v := .int .i64 ca.n) rfl
  have d2 := cellAt (S.box (b := x8) 2 rfl) 2 (v := .string ca.s) rfl
  have d3 := cellAt (S.box (b := x9) 1 rfl) 0 (v := .int .i64 cb.kind) rfl
  have d4 := cellAt (S.box (b := x9) 1 rfl) 1 (v := .int .i64 cb.n) rfl
  have d5 := cellAt (S.box (b := x9) 1 rfl) 2 (v := .string cb.s) rfl
  have M := Lib.hid (ks_sub S 4 rfl HM.out.fit.G (by omega) ca cb AB HAB.out)
  clear S
  go_wp2_with fail
  try simp only [hx10]
  refine M.out.mono ?_
  rintro e w6 ⟨rfl, S⟩
  clear M d0 d1 d2 d3 d4 d5 hx10
  replace S : Sep w (boxR x10 (.cells #[.int .i64 cc.kind, .int .i64 cc.n, .string cc.s] 33) :: boxR x9 (.cells #[.int .i64 cb.kind, .int .i64 cb.n, .string cb.s] 33) :: boxR x8 (.cells #[.int .i64 ca.kind, .int .i64 ca.n, .string ca.s] 33) :: valsR (.slice oa out.length oc) out :: heapR h H :: boxR (b + 1) (.cells #[.int .i64 i0, .int .i64 i1, .int .i64 i2] 26) :: boxR b (.cells #[sB, sH] 25) :: []) _ := S
  obtain ⟨BC, hBC⟩ : ∃ gx_, (H.subM cb cc) = gx_ := ⟨_, rfl⟩
  have HBC := Lib.hid hBC
  clear hBC
  have d0 := cellAt (S.box (b := x9) 1 rfl) 0 (v := .int .i64 cb.kind) rfl
  have d1 := cellAt (S.box (b := x9) 1 rfl) 1 (v := .int .i64 cb.n) rfl
  have d2 := cellAt (S.box (b := x9) 1 rfl) 2 (v := .string cb.s) rfl
  have d3 := cellAt (S.box (b := x10) 0 rfl) 0 (v := .int .i64 cc.kind) rfl
  have d4 := cellAt (S.box (b := x10) 0 rfl) 1 (v := .int .i64 cc.n) rfl
  have d5 := cellAt (S.box (b := x10) 0 rfl) 2 (v := .string cc.s) rfl
  have M := Lib.hid (ks_sub S 4 rfl HM.out.fit.G (by omega) cb cc BC HBC.out)
  clear S
  go_wp2_with fail
  refine M.out.mono ?_
  rintro e w7 ⟨rfl, S⟩
  clear M d0 d1 d2 d3 d4 d5
  replace S : Sep w (boxR x10 (.cells #[.int .i64 cc.kind, .int .i64 cc.n, .string cc.s] 33) :: boxR x9 (.cells #[.int .i64 cb.kind, .int .i64 cb.n, .string cb.s] 33) :: boxR x8 (.cells #[.int .i64 ca.kind, .int .i64 ca.n, .string ca.s] 33) :: valsR (.slice oa out.length oc) out :: heapR h H :: boxR (b + 1) (.cells #[.int .i64 i0, .int .i64 i1, .int .i64 i2] 26) :: boxR b (.cells #[sB, sH] 25) :: []) _ := S
  have R := Lib.hid S
  go_upto_region 10 with fail
  go_cut [92] from 23 (fun s92 wx => s92 = .bool false ∧ Sep w (boxR x10 (.cells #[.int .i64 cc.kind, .int .i64 cc.n, .string cc.s] 33) :: boxR x9 (.cells #[.int .i64 cb.kind, .int .i64 cb.n, .string cb.s] 33) :: boxR x8 (.cells #[.int .i64 ca.kind, .int .i64 ca.n, .string ca.s] 33) :: valsR (.slice oa out.length oc) out :: heapR h H :: boxR (b + 1) (.cells #[.int .i64 i0, .int .i64 i1, .int .i64 i2] 26) :: boxR b (.cells #[sB, sH] 25) :: []) wx)
  case first =>
    have d0 := cellAt (S.box (b := x8) 2 rfl) 0 (v := .int .i64 ca.kind) rfl
    have d1 := cellAt (S.box (b := x8) 2 rfl) 1 (v := .int .i64 ca.n) rfl
    have d2 := cellAt (S.box (b := x8) 2 rfl) 2 (v := .string ca.s) rfl
    have M := Lib.hid (ks_sub S 4 rfl HM.out.fit.G (by omega) ca ca true (subM_self HM.out.cls Hca.out.1 Hca.out.2))
    clear S
    go_wp2_with fail
    refine M.out.mono ?_
    rintro e w8 ⟨rfl, S⟩
    clear M d0 d1 d2
    replace S : Sep w (boxR x10 (.cells #[.int .i64 cc.kind, .int .i64 cc.n, .string cc.s] 33) :: boxR x9 (.cells #[.int .i64 cb.kind, .int .i64 cb.n, .string cb.s] 33) :: boxR x8 (.cells #[.int .i64 ca.kind, .int .i64 ca.n, .string ca.s] 33) :: valsR (.slice oa out.length oc) out :: heapR h H :: boxR (b + 1) (.cells #[.int .i64 i0, .int .i64 i1, .int .i64 i2] 26) :: boxR b (.cells #[sB, sH] 25) :: []) _ := S
    cases AB with
    | false =>
      replace S := Lib.hid S
      go_wp2_with fail
      go_meet
      exact ⟨rfl, S.out⟩
    | true =>
      have tr : Hid (BC = true → H.subM ca cc = true) := Lib.hid fun e => subM_tr HM.out.cls Hcb.out.1 Hcb.out.2 Hcc.out.1 Hcc.out.2 HAB.out (HBC.out.trans e)
      have anti : Hid (H.subM cb ca = true → ca = cb) := Lib.hid fun e => subM_anti HM.out.cls Hca.out.1 Hca.out.2 Hcb.out.1 Hcb.out.2 HAB.out e
      obtain ⟨BA, hBA⟩ : ∃ gx_, (H.subM cb ca) = gx_ := ⟨_, rfl⟩
      have HBA := Lib.hid hBA
      rw [hBA] at anti
      clear hBA
      cases BC with
      | false =>
        have d0 := cellAt (S.box (b := x9) 1 rfl) 0 (v := .int .i64 cb.kind) rfl
        have d1 := cellAt (S.box (b := x9) 1 rfl) 1 (v := .int .i64 cb.n) rfl
        have d2 := cellAt (S.box (b := x9) 1 rfl) 2 (v := .string cb.s) rfl
        have d3 := cellAt (S.box (b := x8) 2 rfl) 0 (v := .int .i64 ca.kind) rfl
        have d4 := cellAt (S.box (b := x8) 2 rfl) 1 (v := .int .i64 ca.n) rfl
        have d5 := cellAt (S.box (b := x8) 2 rfl) 2 (v := .string ca.s) rfl
        have M := Lib.hid (ks_sub S 4 rfl HM.out.fit.G (by omega) cb ca BA HBA.out)
        clear S
        go_wp2_with fail
        refine M.out.mono ?_
        rintro e w9 ⟨rfl, S⟩
        clear M d0 d1 d2 d3 d4 d5
        replace S : Sep w (boxR x10 (.cells #[.int .i64 cc.kind, .int .i64 cc.n, .string cc.s] 33) :: boxR x9 (.cells #[.int .i64 cb.kind, .int .i64 cb.n, .string cb.s] 33) :: boxR x8 (.cells #[.int .i64 ca.kind, .int .i64 ca.n, .string ca.s] 33) :: valsR (.slice oa out.length oc) out :: heapR h H :: boxR (b + 1) (.cells #[.int .i64 i0, .int .i64 i1, .int .i64 i2] 26) :: boxR b (.cells #[sB, sH] 25) :: []) _ := S
        cases BA with
        | false =>
          replace S := Lib.hid S
          go_wp2_with fail
          go_meet
          exact ⟨rfl, S.out⟩
        | true =>
          obtain rfl := anti.out rfl
          have d0 := cellAt (S.box (b := x8) 2 rfl) 0 (v := .int .i64 ca.kind) rfl
          have d1 := cellAt (S.box (b := x8) 2 rfl) 1 (v := .int .i64 ca.n) rfl
          have d2 := cellAt (S.box (b := x8) 2 rfl) 2 (v := .string ca.s) rfl
          have d3 := cellAt (S.box (b := x9) 1 rfl) 0 (v := .int .i64 ca.kind) rfl
          have d4 := cellAt (S.box (b := x9) 1 rfl) 1 (v := .int .i64 ca.n) rfl
          have d5 := cellAt (S.box (b := x9) 1 rfl) 2 (v := .string ca.s) rfl
          have NQ : ∀ W, (binOp .neq 33 (.agg #[.int .i64 ca.kind, .int .i64 ca.n, .string ca.s]) (.agg #[.int .i64 ca.kind, .int .i64 ca.n, .string ca.s])).run Try.prog W = .ok (.bool false) W := fun W => neq_vals W ca ca false (by simp)
          replace S := Lib.hid S
          go_wp2_with fail
          go_meet
          exact ⟨rfl, S.out⟩
      | true =>
        have d0 := cellAt (S.box (b := x8) 2 rfl) 0 (v := .int .i64 ca.kind) rfl
        have d1 := cellAt (S.box (b := x8) 2 rfl) 1 (v := .int .i64 ca.n) rfl
        have d2 := cellAt (S.box (b := x8) 2 rfl) 2 (v := .string ca.s) rfl
        have d3 := cellAt (S.box (b := x10) 0 rfl) 0 (v := .int .i64 cc.kind) rfl
        have d4 := cellAt (S.box (b := x10) 0 rfl) 1 (v := .int .i64 cc.n) rfl
        have d5 := cellAt (S.box (b := x10) 0 rfl) 2 (v := .string cc.s) rfl
        have M := Lib.hid (ks_sub S 4 rfl HM.out.fit.G (by omega) ca cc true (tr.out rfl))
        clear S
        go_wp2_with fail
        refine M.out.mono ?_
        rintro e w9 ⟨rfl, S⟩
        clear M d0 d1 d2 d3 d4 d5
        replace S : Sep w (boxR x10 (.cells #[.int .i64 cc.kind, .int .i64 cc.n, .string cc.s] 33) :: boxR x9 (.cells #[.int .i64 cb.kind, .int .i64 cb.n, .string cb.s] 33) :: boxR x8 (.cells #[.int .i64 ca.kind, .int .i64 ca.n, .string ca.s] 33) :: valsR (.slice oa out.length oc) out :: heapR h H :: boxR (b + 1) (.cells #[.int .i64 i0, .int .i64 i1, .int .i64 i2] 26) :: boxR b (.cells #[sB, sH] 25) :: []) _ := S
        have d0 := cellAt (S.box (b := x9) 1 rfl) 0 (v := .int .i64 cb.kind) rfl
        have d1 := cellAt (S.box (b := x9) 1 rfl) 1 (v := .int .i64 cb.n) rfl
        have d2 := cellAt (S.box (b := x9) 1 rfl) 2 (v := .string cb.s) rfl
        have d3 := cellAt (S.box (b := x8) 2 rfl) 0 (v := .int .i64 ca.kind) rfl
        have d4 := cellAt (S.box (b := x8) 2 rfl) 1 (v := .int .i64 ca.n) rfl
        have d5 := cellAt (S.box (b := x8) 2 rfl) 2 (v := .string ca.s) rfl
        have M := Lib.hid (ks_sub S 4 rfl HM.out.fit.G (by omega) cb ca BA HBA.out)
        clear S
        go_wp2_with fail
        refine M.out.mono ?_
        rintro e w10 ⟨rfl, S⟩
        clear M d0 d1 d2 d3 d4 d5
        replace S : Sep w (boxR x10 (.cells #[.int .i64 cc.kind, .int .i64 cc.n, .string cc.s] 33) :: boxR x9 (.cells #[.int .i64 cb.kind, .int .i64 cb.n, .string cb.s] 33) :: boxR x8 (.cells #[.int .i64 ca.kind, .int .i64 ca.n, .string ca.s] 33) :: valsR (.slice oa out.length oc) out :: heapR h H :: boxR (b + 1) (.cells #[.int .i64 i0, .int .i64 i1, .int .i64 i2] 26) :: boxR b (.cells #[sB, sH] 25) :: []) _ := S
        cases BA with
        | false =>
          replace S := Lib.hid S
          go_wp2_with fail
          go_meet
          exact ⟨rfl, S.out⟩
        | true =>
          obtain rfl := anti.out rfl
          have d0 := cellAt (S.box (b := x8) 2 rfl) 0 (v := .int .i64 ca.kind) rfl
          have d1 := cellAt (S.box (b := x8) 2 rfl) 1 (v := .int .i64 ca.n) rfl
          have d2 := cellAt (S.box (b := x8) 2 rfl) 2 (v := .string ca.s) rfl
          have d3 := cellAt (S.box (b := x9) 1 rfl) 0 (v := .int .i64 ca.kind) rfl
          have d4 := cellAt (S.box (b := x9) 1 rfl) 1 (v := .int .i64 ca.n) rfl
          have d5 := cellAt (S.box (b := x9) 1 rfl) 2 (v := .string ca.s) rfl
          have NQ : ∀ W, (binOp .neq 33 (.agg #[.int .i64 ca.kind, .int .i64 ca.n, .string ca.s]) (.agg #[.int .i64 ca.kind, .int .i64 ca.n, .string ca.s])).run Try.prog W = .ok (.bool false) W := fun W => neq_vals W ca ca false (by simp)
          replace S := Lib.hid S
          go_wp2_with fail
          go_meet
          exact ⟨rfl, S.out⟩
  case rest =>
    obtain ⟨rfl, S⟩ := hcut
    clear R
    clear HBC
    obtain ⟨L, hLL⟩ : ∃ gx_, (H.order ca) = gx_ := ⟨_, rfl⟩
    have HL := Lib.hid hLL
    have hL9 : (L.length : Int) ≤ 1000 := by
      have := HeapM.ordN_len HM.out.fit.G ca
      unfold HeapM.ordN at this
      rw [List.length_map, hLL] at this; omega
    have HAD : Hid (AB = decide (cb ∈ L)) := Lib.hid (by rw [← HAB.out, subM_mem Hcb.out.1 Hcb.out.2, hLL])
    clear hLL
    have d0 := cellAt (S.box (b := x8) 2 rfl) 0 (v := .int .i64 ca.kind) rfl
    have d1 := cellAt (S.box (b := x8) 2 rfl) 1 (v := .int .i64 ca.n) rfl
    have d2 := cellAt (S.box (b := x8) 2 rfl) 2 (v := .string ca.s) rfl
    have M := Lib.hid (kh_ord S 4 rfl HM.out.fit.G (by omega) ca L HL.out)
    clear S
    go_wp2_with fail
    refine M.out.mono ?_
    rintro e w11 ⟨la, lc, rfl, S⟩
    clear M d0 d1 d2
    replace S : Sep w (valsR (.slice la L.length lc) L :: boxR x10 (.cells #[.int .i64 cc.kind, .int .i64 cc.n, .string cc.s] 33) :: boxR x9 (.cells #[.int .i64 cb.kind, .int .i64 cb.n, .string cb.s] 33) :: boxR x8 (.cells #[.int .i64 ca.kind, .int .i64 ca.n, .string ca.s] 33) :: valsR (.slice oa out.length oc) out :: heapR h H :: boxR (b + 1) (.cells #[.int .i64 i0, .int .i64 i1, .int .i64 i2] 26) :: boxR b (.cells #[sB, sH] 25) :: []) _ := S
    replace S := Lib.hid S
    go_wp2
    go_loopw [13, 15] (fun inv iv wr => ∃ k : Nat, k ≤ L.length ∧ iv = .int .i64 k ∧ inv = .bool (decide (cb ∈ L.take k)) ∧ Sep w (valsR (.slice la L.length lc) L :: boxR x10 (.cells #[.int .i64 cc.kind, .int .i64 cc.n, .string cc.s] 33) :: boxR x9 (.cells #[.int .i64 cb.kind, .int .i64 cb.n, .string cb.s] 33) :: boxR x8 (.cells #[.int .i64 ca.kind, .int .i64 ca.n, .string ca.s] 33) :: valsR (.slice oa out.length oc) out :: heapR h H :: boxR (b + 1) (.cells #[.int .i64 i0, .int .i64 i1, .int .i64 i2] 26) :: boxR b (.cells #[sB, sH] 25) :: []) wr) (fun _ iv _ => L.length - (intOf iv).toNat)
    case atStart => exact ⟨0, by omega, rfl, by simp, S.out⟩
    case round =>
      clear S
      obtain ⟨k, hk, rfl, rfl, S⟩ := hrel
      by_cases hlt : k < L.length
      · have hil : (k : Int) < L.length := by omega
        obtain ⟨x, hx⟩ : ∃ x, L[k]? = some x := ⟨L[k], by simp [hlt]⟩
        obtain ⟨_, _, e0, p1, p2, p3⟩ := (S.row 0 rfl).sees'
        cases e0
        obtain ⟨g, og, rfl, hcell⟩ : ∃ g o, la = some ⟨g, o, none⟩ ∧ ∀ i v, L[i]? = some v → wr.cell? ⟨g, o + i * 3, none⟩ = some (.int .i64 v.kind) ∧ wr.cell? ⟨g, o + i * 3 + 1, none⟩ = some (.int .i64 v.n) ∧ wr.cell? ⟨g, o + i * 3 + 2, none⟩ = some (.string v.s) := by
          rcases p3 with hh | hh
          · subst hh; simp at hlt
          · exact hh
        obtain ⟨c0, c1, c2⟩ := hcell k x hx
        have d0 := cellAt (S.box (b := x9) 2 rfl) 0 (v := .int .i64 cb.kind) rfl
        have d1 := cellAt (S.box (b := x9) 2 rfl) 1 (v := .int .i64 cb.n) rfl
        have d2 := cellAt (S.box (b := x9) 2 rfl) 2 (v := .string cb.s) rfl
        have hnx : decide (cb ∈ L.take (k + 1)) = (decide (cb ∈ L.take k) || decide (x = cb)) := by
          rw [List.take_add_one, hx]
          show decide (cb ∈ L.take k ++ [x]) = _
          rw [Bool.eq_iff_iff]
          simp [@eq_comm V cb x]
        obtain ⟨d, hd⟩ : ∃ gx_, (decide (cb ∈ L.take k)) = gx_ := ⟨_, rfl⟩
        obtain ⟨eb, heb⟩ : ∃ gx_, (decide (x = cb)) = gx_ := ⟨_, rfl⟩
        rw [hd, heb] at hnx
        have EQ : ∀ W, (binOp .eql 33 (.agg #[.int .i64 x.kind, .int .i64 x.n, .string x.s]) (.agg #[.int .i64 cb.kind, .int .i64 cb.n, .string cb.s])).run Try.prog W = .ok (.bool eb) W := fun W => eql_vals W x cb eb heb
        have HX := Lib.hid (And.intro hnx hlt)
        rw [hd]
        replace S := Lib.hid S
        clear hx hcell p1 p2 p3 hlt hk hnx hd heb
        cases d with
        | true =>
          go_wp2
          go_quiet (fail)
          go_wp2
          refine ⟨⟨k + 1, by have := HX.out.2; omega, by go_num, by rw [HX.out.1]; simp, S.out.drewN _⟩, by have := HX.out.2; simp [intOf]; omega⟩
        | false =>
          go_wp2
          go_quiet (fail)
          go_wp2
          refine ⟨⟨k + 1, by have := HX.out.2; omega, by go_num, by rw [HX.out.1]; simp, S.out.drewN _⟩, by have := HX.out.2; simp [intOf]; omega⟩
      · obtain rfl : k = L.length := by omega
        rw [List.take_length, ← HAD.out]
        replace S := Lib.hid S
        clear hk hlt
        have FS : Hid (AB = true → ∀ k, (H.find cb k).isSome = true → (H.find ca k).isSome = true) := Lib.hid fun e k => find_sub HM.out.cls (by rw [HL.out]; exact of_decide_eq_true (HAD.out.symm.trans e))
        have hL0 : Hid True := Lib.hid trivial
        clear HAD HAB
        go_wp2
        go_loopw [16] (fun kv wr => ∃ k : Nat, k ≤ 4 ∧ kv = .int .i64 k ∧ Sep w (valsR (.slice la L.length lc) L :: boxR x10 (.cells #[.int .i64 cc.kind, .int .i64 cc.n, .string cc.s] 33) :: boxR x9 (.cells #[.int .i64 cb.kind, .int .i64 cb.n, .string cb.s] 33) :: boxR x8 (.cells #[.int .i64 ca.kind, .int .i64 ca.n, .string ca.s] 33) :: valsR (.slice oa out.length oc) out :: heapR h H :: boxR (b + 1) (.cells #[.int .i64 i0, .int .i64 i1, .int .i64 i2] 26) :: boxR b (.cells #[sB, sH] 25) :: []) wr) (fun kv _ => 4 - (intOf kv).toNat)
        case atStart => exact ⟨0, by omega, rfl, S.out⟩
        case round =>
          clear S
          obtain ⟨k, hk4, rfl, S⟩ := hrel
          have hk4' : (k : Int) ≤ 4 := by omega
          by_cases hk : k < 4
          · have hkl : (k : Int) < 4 := by omega
            have HNM : ∀ W, (Instr.index 39 namesV (.int .i64 k)).run Try.prog W = .ok (.string (nameK k)) W := run_names hk
            obtain ⟨gb, hgb⟩ : ∃ gx_, (H.find cb (keyS (nameK k) (nameK_le k))) = gx_ := ⟨_, rfl⟩
            obtain ⟨ga, hga⟩ : ∃ gx_, (H.find ca (keyS (nameK k) (nameK_le k))) = gx_ := ⟨_, rfl⟩
            have HT : Hid (AB = true → gb.isSome = true → ga.isSome = true) := Lib.hid fun e1 e2 => by rw [← hga]; exact FS.out e1 _ (by rw [hgb]; exact e2)
            have HG := Lib.hid (And.intro hgb (And.intro hga hk))
            clear hgb hga hk hk4
            obtain ⟨basegb, hbasegb⟩ : ∃ base, base = valsR (.slice la L.length lc) L :: boxR x10 (.cells #[.int .i64 cc.kind, .int .i64 cc.n, .string cc.s] 33) :: boxR x9 (.cells #[.int .i64 cb.kind, .int .i64 cb.n, .string cb.s] 33) :: boxR x8 (.cells #[.int .i64 ca.kind, .int .i64 ca.n, .string ca.s] 33) :: valsR (.slice oa out.length oc) out :: heapR h H :: boxR (b + 1) (.cells #[.int .i64 i0, .int .i64 i1, .int .i64 i2] 26) :: boxR b (.cells #[sB, sH] 25) :: [] := ⟨_, rfl⟩
            have Hbasegb := Lib.hid hbasegb
            have Kbasegb : Hid (∀ W (Q : List Res), Sep w (Q ++ basegb) W → W.cell? ⟨x9, 0, none⟩ = some (.int .i64 cb.kind) ∧ W.cell? ⟨x9, 1, none⟩ = some (.int .i64 cb.n) ∧ W.cell? ⟨x9, 2, none⟩ = some (.string cb.s)) := Lib.hid fun W Q T => by
              rw [hbasegb] at T
              have i0 := T.box (b := x9) (o := .cells #[.int .i64 cb.kind, .int .i64 cb.n, .string cb.s] 33) (Q.length + 2) (by rw [List.getElem?_append_right (by omega), Nat.add_sub_cancel_left]; rfl)
              exact ⟨cellAt i0 0 rfl, cellAt i0 1 rfl, cellAt i0 2 rfl⟩
            have KNgb : Hid (∀ W (Q : List Res), Sep w (Q ++ basegb) W → Calls Try.prog 17 #[] W fun e W' => e = .returned (namesV) ∧ Sep w (Q ++ basegb) W') := Lib.hid fun W Q T => by
              exact (names_ok W).mono fun e W' ⟨e1, e2⟩ => ⟨e1, T.later e2⟩
            have KFgb : Hid (∀ W (Q : List Res), Sep w (Q ++ basegb) W → Calls Try.prog 16 #[.pointer (some ⟨h, 0, none⟩), .agg #[.int .i64 cb.kind, .int .i64 cb.n, .string cb.s], .string (nameK k)] W fun e W' => e = .returned (.tuple #[.agg #[.int .i64 (gb.getD V.zero).kind, .int .i64 (gb.getD V.zero).n, .string (gb.getD V.zero).s], .bool gb.isSome]) ∧ Sep w (Q ++ basegb) W') := Lib.hid fun W Q T => by
              rw [Hbasegb.out] at T
              rw [Hbasegb.out]
              have hh := ks_find T (Q.length + 5) (by rw [List.getElem?_append_right (by omega), Nat.add_sub_cancel_left]; rfl) HM.out.fit.G (by omega) cb (nameK k) (nameK_le k) gb HG.out.1
              try rw [List.set_append_right _ _ (by omega), Nat.add_sub_cancel_left] at hh
              exact hh
            replace S : Sep w basegb wr := by rw [hbasegb]; exact S
            replace S := Lib.hid S
            clear hbasegb
            go_upto_region 21 with fail
            go_cut [17, 18] from 111 to 140 (fun s17 s18 wx => ∃ qx, s17 = .pointer (some ⟨qx, 0, none⟩) ∧ s18 = .bool gb.isSome ∧ Sep w (boxR qx (.cells #[.int .i64 (gb.getD V.zero).kind, .int .i64 (gb.getD V.zero).n, .string (gb.getD V.zero).s] 33) :: basegb) wx)
            case first =>
              have T0 : Sep w ([] ++ basegb) _ := S.out.drew
              clear S
              as_aux_lemma =>
                refine wp_region_held_drew (S := fun W => W.cell? ⟨x9, 0, none⟩ = some (.int .i64 cb.kind) ∧ W.cell? ⟨x9, 1, none⟩ = some (.int .i64 cb.n) ∧ W.cell? ⟨x9, 2, none⟩ = some (.string cb.s)) (by kernel_rfl) (Kbasegb.out _ [] T0) (fun hH => ?_)
                refine takeT 0 hH (hy := .inl ⟨by rfl, by (intro w hSw; try obtain ⟨u0, u1, u2⟩ := hSw); (go_simp; try rfl)⟩) (h := ?_)
                simp only [Act.put, List.setIfInBounds_toArray, List.set_cons_zero, List.set_cons_succ]
                refine takeT 1 hH (hy := .inl ⟨by rfl, by (intro w hSw; try obtain ⟨u0, u1, u2⟩ := hSw); (go_simp; try rfl)⟩) (h := ?_)
                simp only [Act.put, List.setIfInBounds_toArray, List.set_cons_zero, List.set_cons_succ]
                refine takeT 3 hH (hy := .inl ⟨by rfl, by (intro w hSw; try obtain ⟨u0, u1, u2⟩ := hSw); (go_simp; try rfl)⟩) (h := ?_)
                simp only [Act.put, List.setIfInBounds_toArray, List.set_cons_zero, List.set_cons_succ]
                refine readyT [2, 9] ?_
                refine consT (fun K hK => ?_) (consT (fun K hK => ?_) AllReadyH.nil)
                · go_simp
                  go_wp2_with (go_at_call 17; refine (KNgb.out _ [] T0).mono ?_; rintro e w1 ⟨rfl, T1⟩)
                  clear hH
                  refine hK.out _ _ (Kbasegb.out _ [] T1) (fun hH => ?_)
                  clear hK K
                  refine takeT 4 hH (hy := .inl ⟨by rfl, by (intro w hSw; try obtain ⟨u0, u1, u2⟩ := hSw); (go_simp; try rfl)⟩) (h := ?_)
                  simp only [Act.put, List.setIfInBounds_toArray, List.set_cons_zero, List.set_cons_succ]
                  refine readyT [5, 9] ?_
                  refine consT (fun K hK => ?_) (consT (fun K hK => ?_) AllReadyH.nil)
                  · go_simp
                    go_wp2_with (go_at_call 16; refine (KFgb.out _ [] T1).mono ?_; rintro e w2 ⟨rfl, T2⟩)
                    clear hH
                    refine hK.out _ _ (Kbasegb.out _ [] T2) (fun hH => ?_)
                    clear hK K
                    refine takeT 6 hH (hy := .inl ⟨by rfl, by (intro w hSw; try obtain ⟨u0, u1, u2⟩ := hSw); (go_simp; try rfl)⟩) (h := ?_)
                    simp only [Act.put, List.setIfInBounds_toArray, List.set_cons_zero, List.set_cons_succ]
                    refine takeT 7 hH (hy := .inl ⟨by rfl, by (intro w hSw; try obtain ⟨u0, u1, u2⟩ := hSw); (go_simp; try rfl)⟩) (h := ?_)
                    simp only [Act.put, List.setIfInBounds_toArray, List.set_cons_zero, List.set_cons_succ]
                    refine takeT 8 hH (hy := .inl ⟨by rfl, by (intro w hSw; try obtain ⟨u0, u1, u2⟩ := hSw); (go_simp; try rfl)⟩) (h := ?_)
                    simp only [Act.put, List.setIfInBounds_toArray, List.set_cons_zero, List.set_cons_succ]
                    refine readyT [9] ?_
                    refine consT (fun K hK => ?_) AllReadyH.nil
                    go_simp
                    have T3 : Sep w ([boxR _ (.cells #[.int .i64 0, .int .i64 0, .string ⟨#[]⟩] 33)] ++ basegb) _ := Sep.alloc T2 (.cells #[.int .i64 0, .int .i64 0, .string ⟨#[]⟩] 33)
                    try simp only [size_drew, World.size_alloc] at T3
                    clear hH
                    refine hK.out _ _ (Kbasegb.out _ [_] T3) (fun hH => ?_)
                    clear hK K
                    refine readyT [10] ?_
                    refine consT (fun K hK => ?_) AllReadyH.nil
                    have hz := T3.box 0 rfl
                    have z0 := cellAt hz 0 (v := .int .i64 0) rfl
                    have z1 := cellAt hz 1 (v := .int .i64 0) rfl
                    have z2 := cellAt hz 2 (v := .string ⟨#[]⟩) rfl
                    have z3 := frozenAt hz 0
                    have z4 := frozenAt hz 1
                    have z5 := frozenAt hz 2
                    go_simp
                    clear hz z0 z1 z2 z3 z4 z5
                    clear hH
                    first | (have T4 : Sep w ([boxR _ (.cells #[.int .i64 (gb.getD V.zero).kind, .int .i64 (gb.getD V.zero).n, .string (gb.getD V.zero).s] 33)] ++ basegb) _ := (Sep.alloc T2 (.cells #[.int .i64 (gb.getD V.zero).kind, .int .i64 (gb.getD V.zero).n, .string (gb.getD V.zero).s] 33)); (try simp only [size_drew, World.size_alloc] at T4); refine hK.out _ _ (Kbasegb.out _ [_] T4) (fun hH => ?_)) | (have T4 : Sep w ([boxR _ (.cells #[.int .i64 (gb.getD V.zero).kind, .int .i64 (gb.getD V.zero).n, .string (gb.getD V.zero).s] 33)] ++ basegb) _ := (Sep.setBox (cs := #[.int .i64 (gb.getD V.zero).kind, .int .i64 (gb.getD V.zero).n, .string ⟨#[]⟩]) (t := 33) (Sep.setBox (cs := #[.int .i64 (gb.getD V.zero).kind, .int .i64 0, .string ⟨#[]⟩]) (t := 33) (Sep.setBox (cs := #[.int .i64 0, .int .i64 0, .string ⟨#[]⟩]) (t := 33) T3 0 rfl 0 (.int .i64 (gb.getD V.zero).kind)) 0 rfl 1 (.int .i64 (gb.getD V.zero).n)) 0 rfl 2 (.string (gb.getD V.zero).s)); (try simp only [size_drew, World.size_alloc] at T4); refine hK.out _ _ (Kbasegb.out _ [_] T4) (fun hH => ?_))
                    clear hK K
                    refine takeT 11 hH (hy := .inl ⟨by rfl, by (intro w hSw; try obtain ⟨u0, u1, u2⟩ := hSw); (go_simp; try rfl)⟩) (h := ?_)
                    simp only [Act.put, List.setIfInBounds_toArray, List.set_cons_zero, List.set_cons_succ]
                    refine wpAnyH_done (by kernel_rfl) ?_ _
                    as_aux_lemma =>
                      go_wp2_with fail
                      go_meet
                      exact ⟨_, rfl, rfl, T4⟩
                  · go_simp
                    have T5 : Sep w ([boxR _ (.cells #[.int .i64 0, .int .i64 0, .string ⟨#[]⟩] 33)] ++ basegb) _ := Sep.alloc T1 (.cells #[.int .i64 0, .int .i64 0, .string ⟨#[]⟩] 33)
                    try simp only [size_drew, World.size_alloc] at T5
                    clear hH
                    refine hK.out _ _ (Kbasegb.out _ [_] T5) (fun hH => ?_)
                    clear hK K
                    refine readyT [5] ?_
                    refine consT (fun K hK => ?_) AllReadyH.nil
                    go_simp
                    go_wp2_with (go_at_call 16; refine (KFgb.out _ [_] T5).mono ?_; rintro e w6 ⟨rfl, T6⟩)
                    clear hH
                    refine hK.out _ _ (Kbasegb.out _ [_] T6) (fun hH => ?_)
                    clear hK K
                    refine takeT 6 hH (hy := .inl ⟨by rfl, by (intro w hSw; try obtain ⟨u0, u1, u2⟩ := hSw); (go_simp; try rfl)⟩) (h := ?_)
                    simp only [Act.put, List.setIfInBounds_toArray, List.set_cons_zero, List.set_cons_succ]
                    refine takeT 7 hH (hy := .inl ⟨by rfl, by (intro w hSw; try obtain ⟨u0, u1, u2⟩ := hSw); (go_simp; try rfl)⟩) (h := ?_)
                    simp only [Act.put, List.setIfInBounds_toArray, List.set_cons_zero, List.set_cons_succ]
                    refine takeT 8 hH (hy := .inl ⟨by rfl, by (intro w hSw; try obtain ⟨u0, u1, u2⟩ := hSw); (go_simp; try rfl)⟩) (h := ?_)
                    simp only [Act.put, List.setIfInBounds_toArray, List.set_cons_zero, List.set_cons_succ]
                    refine readyT [10] ?_
                    refine consT (fun K hK => ?_) AllReadyH.nil
                    have hz := T6.box 0 rfl
                    have z0 := cellAt hz 0 (v := .int .i64 0) rfl
                    have z1 := cellAt hz 1 (v := .int .i64 0) rfl
                    have z2 := cellAt hz 2 (v := .string ⟨#[]⟩) rfl
                    have z3 := frozenAt hz 0
                    have z4 := frozenAt hz 1
                    have z5 := frozenAt hz 2
                    go_simp
                    clear hz z0 z1 z2 z3 z4 z5
                    clear hH
                    have T7 : Sep w ([boxR _ (.cells #[.int .i64 (gb.getD V.zero).kind, .int .i64 (gb.getD V.zero).n, .string (gb.getD V.zero).s] 33)] ++ basegb) _ := (Sep.setBox (cs := #[.int .i64 (gb.getD V.zero).kind, .int .i64 (gb.getD V.zero).n, .string ⟨#[]⟩]) (t := 33) (Sep.setBox (cs := #[.int .i64 (gb.getD V.zero).kind, .int .i64 0, .string ⟨#[]⟩]) (t := 33) (Sep.setBox (cs := #[.int .i64 0, .int .i64 0, .string ⟨#[]⟩]) (t := 33) T6 0 rfl 0 (.int .i64 (gb.getD V.zero).kind)) 0 rfl 1 (.int .i64 (gb.getD V.zero).n)) 0 rfl 2 (.string (gb.getD V.zero).s))
                    try simp only [size_drew, World.size_alloc] at T7
                    refine hK.out _ _ (Kbasegb.out _ [_] T7) (fun hH => ?_)
                    clear hK K
                    refine takeT 11 hH (hy := .inl ⟨by rfl, by (intro w hSw; try obtain ⟨u0, u1, u2⟩ := hSw); (go_simp; try rfl)⟩) (h := ?_)
                    simp only [Act.put, List.setIfInBounds_toArray, List.set_cons_zero, List.set_cons_succ]
                    refine wpAnyH_done (by kernel_rfl) ?_ _
                    as_aux_lemma =>
                      go_wp2_with fail
                      go_meet
                      exact ⟨_, rfl, rfl, T7⟩
                · go_simp
                  have T8 : Sep w ([boxR _ (.cells #[.int .i64 0, .int .i64 0, .string ⟨#[]⟩] 33)] ++ basegb) _ := Sep.alloc T0 (.cells #[.int .i64 0, .int .i64 0, .string ⟨#[]⟩] 33)
                  try simp only [size_drew, World.size_alloc] at T8
                  clear hH
                  refine hK.out _ _ (Kbasegb.out _ [_] T8) (fun hH => ?_)
                  clear hK K
                  refine readyT [2] ?_
                  refine consT (fun K hK => ?_) AllReadyH.nil
                  go_simp
                  go_wp2_with (go_at_call 17; refine (KNgb.out _ [_] T8).mono ?_; rintro e w9 ⟨rfl, T9⟩)
                  clear hH
                  refine hK.out _ _ (Kbasegb.out _ [_] T9) (fun hH => ?_)
                  clear hK K
                  refine takeT 4 hH (hy := .inl ⟨by rfl, by (intro w hSw; try obtain ⟨u0, u1, u2⟩ := hSw); (go_simp; try rfl)⟩) (h := ?_)
                  simp only [Act.put, List.setIfInBounds_toArray, List.set_cons_zero, List.set_cons_succ]
                  refine readyT [5] ?_
                  refine consT (fun K hK => ?_) AllReadyH.nil
                  go_simp
                  go_wp2_with (go_at_call 16; refine (KFgb.out _ [_] T9).mono ?_; rintro e w10 ⟨rfl, T10⟩)
                  clear hH
                  refine hK.out _ _ (Kbasegb.out _ [_] T10) (fun hH => ?_)
                  clear hK K
                  refine takeT 6 hH (hy := .inl ⟨by rfl, by (intro w hSw; try obtain ⟨u0, u1, u2⟩ := hSw); (go_simp; try rfl)⟩) (h := ?_)
                  simp only [Act.put, List.setIfInBounds_toArray, List.set_cons_zero, List.set_cons_succ]
                  refine takeT 7 hH (hy := .inl ⟨by rfl, by (intro w hSw; try obtain ⟨u0, u1, u2⟩ := hSw); (go_simp; try rfl)⟩) (h := ?_)
                  simp only [Act.put, List.setIfInBounds_toArray, List.set_cons_zero, List.set_cons_succ]
                  refine takeT 8 hH (hy := .inl ⟨by rfl, by (intro w hSw; try obtain ⟨u0, u1, u2⟩ := hSw); (go_simp; try rfl)⟩) (h := ?_)
                  simp only [Act.put, List.setIfInBounds_toArray, List.set_cons_zero, List.set_cons_succ]
                  refine readyT [10] ?_
                  refine consT (fun K hK => ?_) AllReadyH.nil
                  have hz := T10.box 0 rfl
                  have z0 := cellAt hz 0 (v := .int .i64 0) rfl
                  have z1 := cellAt hz 1 (v := .int .i64 0) rfl
                  have z2 := cellAt hz 2 (v := .string ⟨#[]⟩) rfl
                  have z3 := frozenAt hz 0
                  have z4 := frozenAt hz 1
                  have z5 := frozenAt hz 2
                  go_simp
                  clear hz z0 z1 z2 z3 z4 z5
                  clear hH
                  have T11 : Sep w ([boxR _ (.cells #[.int .i64 (gb.getD V.zero).kind, .int .i64 (gb.getD V.zero).n, .string (gb.getD V.zero).s] 33)] ++ basegb) _ := (Sep.setBox (cs := #[.int .i64 (gb.getD V.zero).kind, .int .i64 (gb.getD V.zero).n, .string ⟨#[]⟩]) (t := 33) (Sep.setBox (cs := #[.int .i64 (gb.getD V.zero).kind, .int .i64 0, .string ⟨#[]⟩]) (t := 33) (Sep.setBox (cs := #[.int .i64 0, .int .i64 0, .string ⟨#[]⟩]) (t := 33) T10 0 rfl 0 (.int .i64 (gb.getD V.zero).kind)) 0 rfl 1 (.int .i64 (gb.getD V.zero).n)) 0 rfl 2 (.string (gb.getD V.zero).s))
                  try simp only [size_drew, World.size_alloc] at T11
                  refine hK.out _ _ (Kbasegb.out _ [_] T11) (fun hH => ?_)
                  clear hK K
                  refine takeT 11 hH (hy := .inl ⟨by rfl, by (intro w hSw; try obtain ⟨u0, u1, u2⟩ := hSw); (go_simp; try rfl)⟩) (h := ?_)
                  simp only [Act.put, List.setIfInBounds_toArray, List.set_cons_zero, List.set_cons_succ]
                  refine wpAnyH_done (by kernel_rfl) ?_ _
                  as_aux_lemma =>
                    go_wp2_with fail
                    go_meet
                    exact ⟨_, rfl, rfl, T11⟩
            case rest =>
              obtain ⟨qgb, rfl, rfl, S⟩ := hcut
              rw [Hbasegb.out] at S
              clear KNgb KFgb Kbasegb
              replace S : Sep w (boxR qgb (.cells #[.int .i64 (gb.getD V.zero).kind, .int .i64 (gb.getD V.zero).n, .string (gb.getD V.zero).s] 33) :: valsR (.slice la L.length lc) L :: boxR x10 (.cells #[.int .i64 cc.kind, .int .i64 cc.n, .string cc.s] 33) :: boxR x9 (.cells #[.int .i64 cb.kind, .int .i64 cb.n, .string cb.s] 33) :: boxR x8 (.cells #[.int .i64 ca.kind, .int .i64 ca.n, .string ca.s] 33) :: valsR (.slice oa out.length oc) out :: heapR h H :: boxR (b + 1) (.cells #[.int .i64 i0, .int .i64 i1, .int .i64 i2] 26) :: boxR b (.cells #[sB, sH] 25) :: []) wc := S
              obtain ⟨basega, hbasega⟩ : ∃ base, base = boxR qgb (.cells #[.int .i64 (gb.getD V.zero).kind, .int .i64 (gb.getD V.zero).n, .string (gb.getD V.zero).s] 33) :: valsR (.slice la L.length lc) L :: boxR x10 (.cells #[.int .i64 cc.kind, .int .i64 cc.n, .string cc.s] 33) :: boxR x9 (.cells #[.int .i64 cb.kind, .int .i64 cb.n, .string cb.s] 33) :: boxR x8 (.cells #[.int .i64 ca.kind, .int .i64 ca.n, .string ca.s] 33) :: valsR (.slice oa out.length oc) out :: heapR h H :: boxR (b + 1) (.cells #[.int .i64 i0, .int .i64 i1, .int .i64 i2] 26) :: boxR b (.cells #[sB, sH] 25) :: [] := ⟨_, rfl⟩
              have Hbasega := Lib.hid hbasega
              have Kbasega : Hid (∀ W (Q : List Res), Sep w (Q ++ basega) W → W.cell? ⟨x8, 0, none⟩ = some (.int .i64 ca.kind) ∧ W.cell? ⟨x8, 1, none⟩ = some (.int .i64 ca.n) ∧ W.cell? ⟨x8, 2, none⟩ = some (.string ca.s)) := Lib.hid fun W Q T => by
                rw [hbasega] at T
                have i0 := T.box (b := x8) (o := .cells #[.int .i64 ca.kind, .int .i64 ca.n, .string ca.s] 33) (Q.length + 4) (by rw [List.getElem?_append_right (by omega), Nat.add_sub_cancel_left]; rfl)
                exact ⟨cellAt i0 0 rfl, cellAt i0 1 rfl, cellAt i0 2 rfl⟩
              have KNga : Hid (∀ W (Q : List Res), Sep w (Q ++ basega) W → Calls Try.prog 17 #[] W fun e W' => e = .returned (namesV) ∧ Sep w (Q ++ basega) W') := Lib.hid fun W Q T => by
                exact (names_ok W).mono fun e W' ⟨e1, e2⟩ => ⟨e1, T.later e2⟩
              have KFga : Hid (∀ W (Q : List Res), Sep w (Q ++ basega) W → Calls Try.prog 16 #[.pointer (some ⟨h, 0, none⟩), .agg #[.int .i64 ca.kind, .int .i64 ca.n, .string ca.s], .string (nameK k)] W fun e W' => e = .returned (.tuple #[.agg #[.int .i64 (ga.getD V.zero).kind, .int .i64 (ga.getD V.zero).n, .string (ga.getD V.zero).s], .bool ga.isSome]) ∧ Sep w (Q ++ basega) W') := Lib.hid fun W Q T => by
                rw [Hbasega.out] at T
                rw [Hbasega.out]
                have hh := ks_find T (Q.length + 6) (by rw [List.getElem?_append_right (by omega), Nat.add_sub_cancel_left]; rfl) HM.out.fit.G (by omega) ca (nameK k) (nameK_le k) ga HG.out.2.1
                try rw [List.set_append_right _ _ (by omega), Nat.add_sub_cancel_left] at hh
                exact hh
              replace S : Sep w basega wc := by rw [hbasega]; exact S
              replace S := Lib.hid S
              clear hbasega
              go_upto_region 22 with fail
              go_cut [19, 20] from 111 to 140 (fun s19 s20 wx => ∃ qx, s19 = .pointer (some ⟨qx, 0, none⟩) ∧ s20 = .bool ga.isSome ∧ Sep w (boxR qx (.cells #[.int .i64 (ga.getD V.zero).kind, .int .i64 (ga.getD V.zero).n, .string (ga.getD V.zero).s] 33) :: basega) wx)
              case first =>
                have T0 : Sep w ([] ++ basega) _ := S.out.drew
                clear S
                as_aux_lemma =>
                  refine wp_region_held_drew (S := fun W => W.cell? ⟨x8, 0, none⟩ = some (.int .i64 ca.kind) ∧ W.cell? ⟨x8, 1, none⟩ = some (.int .i64 ca.n) ∧ W.cell? ⟨x8, 2, none⟩ = some (.string ca.s)) (by kernel_rfl) (Kbasega.out _ [] T0) (fun hH => ?_)
                  refine takeT 0 hH (hy := .inl ⟨by rfl, by (intro w hSw; try obtain ⟨u0, u1, u2⟩ := hSw); (go_simp; try rfl)⟩) (h := ?_)
                  simp only [Act.put, List.setIfInBounds_toArray, List.set_cons_zero, List.set_cons_succ]
                  refine takeT 1 hH (hy := .inl ⟨by rfl, by (intro w hSw; try obtain ⟨u0, u1, u2⟩ := hSw); (go_simp; try rfl)⟩) (h := ?_)
                  simp only [Act.put, List.setIfInBounds_toArray, List.set_cons_zero, List.set_cons_succ]
                  refine takeT 3 hH (hy := .inl ⟨by rfl, by (intro w hSw; try obtain ⟨u0, u1, u2⟩ := hSw); (go_simp; try rfl)⟩) (h := ?_)
                  simp only [Act.put, List.setIfInBounds_toArray, List.set_cons_zero, List.set_cons_succ]
                  refine readyT [2, 9] ?_
                  refine consT (fun K hK => ?_) (consT (fun K hK => ?_) AllReadyH.nil)
                  · go_simp
                    go_wp2_with (go_at_call 17; refine (KNga.out _ [] T0).mono ?_; rintro e w1 ⟨rfl, T1⟩)
                    clear hH
                    refine hK.out _ _ (Kbasega.out _ [] T1) (fun hH => ?_)
                    clear hK K
                    refine takeT 4 hH (hy := .inl ⟨by rfl, by (intro w hSw; try obtain ⟨u0, u1, u2⟩ := hSw); (go_simp; try rfl)⟩) (h := ?_)
                    simp only [Act.put, List.setIfInBounds_toArray, List.set_cons_zero, List.set_cons_succ]
                    refine readyT [5, 9] ?_
                    refine consT (fun K hK => ?_) (consT (fun K hK => ?_) AllReadyH.nil)
                    · go_simp
                      go_wp2_with (go_at_call 16; refine (KFga.out _ [] T1).mono ?_; rintro e w2 ⟨rfl, T2⟩)
                      clear hH
                      refine hK.out _ _ (Kbasega.out _ [] T2) (fun hH => ?_)
                      clear hK K
                      refine takeT 6 hH (hy := .inl ⟨by rfl, by (intro w hSw; try obtain ⟨u0, u1, u2⟩ := hSw); (go_simp; try rfl)⟩) (h := ?_)
                      simp only [Act.put, List.setIfInBounds_toArray, List.set_cons_zero, List.set_cons_succ]
                      refine takeT 7 hH (hy := .inl ⟨by rfl, by (intro w hSw; try obtain ⟨u0, u1, u2⟩ := hSw); (go_simp; try rfl)⟩) (h := ?_)
                      simp only [Act.put, List.setIfInBounds_toArray, List.set_cons_zero, List.set_cons_succ]
                      refine takeT 8 hH (hy := .inl ⟨by rfl, by (intro w hSw; try obtain ⟨u0, u1, u2⟩ := hSw); (go_simp; try rfl)⟩) (h := ?_)
                      simp only [Act.put, List.setIfInBounds_toArray, List.set_cons_zero, List.set_cons_succ]
                      refine readyT [9] ?_
                      refine consT (fun K hK => ?_) AllReadyH.nil
                      go_simp
                      have T3 : Sep w ([boxR _ (.cells #[.int .i64 0, .int .i64 0, .string ⟨#[]⟩] 33)] ++ basega) _ := Sep.alloc T2 (.cells #[.int .i64 0, .int .i64 0, .string ⟨#[]⟩] 33)
                      try simp only [size_drew, World.size_alloc] at T3
                      clear hH
                      refine hK.out _ _ (Kbasega.out _ [_] T3) (fun hH => ?_)
                      clear hK K
                      refine readyT [10] ?_
                      refine consT (fun K hK => ?_) AllReadyH.nil
                      have hz := T3.box 0 rfl
                      have z0 := cellAt hz 0 (v := .int .i64 0) rfl
                      have z1 := cellAt hz 1 (v := .int .i64 0) rfl
                      have z2 := cellAt hz 2 (v := .string ⟨#[]⟩) rfl
                      have z3 := frozenAt hz 0
                      have z4 := frozenAt hz 1
                      have z5 := frozenAt hz 2
                      go_simp
                      clear hz z0 z1 z2 z3 z4 z5
                      clear hH
                      first | (have T4 : Sep w ([boxR _ (.cells #[.int .i64 (ga.getD V.zero).kind, .int .i64 (ga.getD V.zero).n, .string (ga.getD V.zero).s] 33)] ++ basega) _ := (Sep.alloc T2 (.cells #[.int .i64 (ga.getD V.zero).kind, .int .i64 (ga.getD V.zero).n, .string (ga.getD V.zero).s] 33)); (try simp only [size_drew, World.size_alloc] at T4); refine hK.out _ _ (Kbasega.out _ [_] T4) (fun hH => ?_)) | (have T4 : Sep w ([boxR _ (.cells #[.int .i64 (ga.getD V.zero).kind, .int .i64 (ga.getD V.zero).n, .string (ga.getD V.zero).s] 33)] ++ basega) _ := (Sep.setBox (cs := #[.int .i64 (ga.getD V.zero).kind, .int .i64 (ga.getD V.zero).n, .string ⟨#[]⟩]) (t := 33) (Sep.setBox (cs := #[.int .i64 (ga.getD V.zero).kind, .int .i64 0, .string ⟨#[]⟩]) (t := 33) (Sep.setBox (cs := #[.int .i64 0, .int .i64 0, .string ⟨#[]⟩]) (t := 33) T3 0 rfl 0 (.int .i64 (ga.getD V.zero).kind)) 0 rfl 1 (.int .i64 (ga.getD V.zero).n)) 0 rfl 2 (.string (ga.getD V.zero).s)); (try simp only [size_drew, World.size_alloc] at T4); refine hK.out _ _ (Kbasega.out _ [_] T4) (fun hH => ?_))
                      clear hK K
                      refine takeT 11 hH (hy := .inl ⟨by rfl, by (intro w hSw; try obtain ⟨u0, u1, u2⟩ := hSw); (go_simp; try rfl)⟩) (h := ?_)
                      simp only [Act.put, List.setIfInBounds_toArray, List.set_cons_zero, List.set_cons_succ]
                      refine wpAnyH_done (by kernel_rfl) ?_ _
                      as_aux_lemma =>
                        go_wp2_with fail
                        go_meet
                        exact ⟨_, rfl, rfl, T4⟩
                    · go_simp
                      have T5 : Sep w ([boxR _ (.cells #[.int .i64 0, .int .i64 0, .string ⟨#[]⟩] 33)] ++ basega) _ := Sep.alloc T1 (.cells #[.int .i64 0, .int .i64 0, .string ⟨#[]⟩] 33)
                      try simp only [size_drew, World.size_alloc] at T5
                      clear hH
                      refine hK.out _ _ (Kbasega.out _ [_] T5) (fun hH => ?_)
                      clear hK K
                      refine readyT [5] ?_
                      refine consT (fun K hK => ?_) AllReadyH.nil
                      go_simp
                      go_wp2_with (go_at_call 16; refine (KFga.out _ [_] T5).mono ?_; rintro e w6 ⟨rfl, T6⟩)
                      clear hH
                      refine hK.out _ _ (Kbasega.out _ [_] T6) (fun hH => ?_)
                      clear hK K
                      refine takeT 6 hH (hy := .inl ⟨by rfl, by (intro w hSw; try obtain ⟨u0, u1, u2⟩ := hSw); (go_simp; try rfl)⟩) (h := ?_)
                      simp only [Act.put, List.setIfInBounds_toArray, List.set_cons_zero, List.set_cons_succ]
                      refine takeT 7 hH (hy := .inl ⟨by rfl, by (intro w hSw; try obtain ⟨u0, u1, u2⟩ := hSw); (go_simp; try rfl)⟩) (h := ?_)
                      simp only [Act.put, List.setIfInBounds_toArray, List.set_cons_zero, List.set_cons_succ]
                      refine takeT 8 hH (hy := .inl ⟨by rfl, by (intro w hSw; try obtain ⟨u0, u1, u2⟩ := hSw); (go_simp; try rfl)⟩) (h := ?_)
                      simp only [Act.put, List.setIfInBounds_toArray, List.set_cons_zero, List.set_cons_succ]
                      refine readyT [10] ?_
                      refine consT (fun K hK => ?_) AllReadyH.nil
                      have hz := T6.box 0 rfl
                      have z0 := cellAt hz 0 (v := .int .i64 0) rfl
                      have z1 := cellAt hz 1 (v := .int .i64 0) rfl
                      have z2 := cellAt hz 2 (v := .string ⟨#[]⟩) rfl
                      have z3 := frozenAt hz 0
                      have z4 := frozenAt hz 1
                      have z5 := frozenAt hz 2
                      go_simp
                      clear hz z0 z1 z2 z3 z4 z5
                      clear hH
                      have T7 : Sep w ([boxR _ (.cells #[.int .i64 (ga.getD V.zero).kind, .int .i64 (ga.getD V.zero).n, .string (ga.getD V.zero).s] 33)] ++ basega) _ := (Sep.setBox (cs := #[.int .i64 (ga.getD V.zero).kind, .int .i64 (ga.getD V.zero).n, .string ⟨#[]⟩]) (t := 33) (Sep.setBox (cs := #[.int .i64 (ga.getD V.zero).kind, .int .i64 0, .string ⟨#[]⟩]) (t := 33) (Sep.setBox (cs := #[.int .i64 0, .int .i64 0, .string ⟨#[]⟩]) (t := 33) T6 0 rfl 0 (.int .i64 (ga.getD V.zero).kind)) 0 rfl 1 (.int .i64 (ga.getD V.zero).n)) 0 rfl 2 (.string (ga.getD V.zero).s))
                      try simp only [size_drew, World.size_alloc] at T7
                      refine hK.out _ _ (Kbasega.out _ [_] T7) (fun hH => ?_)
                      clear hK K
                      refine takeT 11 hH (hy := .inl ⟨by rfl, by (intro w hSw; try obtain ⟨u0, u1, u2⟩ := hSw); (go_simp; try rfl)⟩) (h := ?_)
                      simp only [Act.put, List.setIfInBounds_toArray, List.set_cons_zero, List.set_cons_succ]
                      refine wpAnyH_done (by kernel_rfl) ?_ _
                      as_aux_lemma =>
                        go_wp2_with fail
                        go_meet
                        exact ⟨_, rfl, rfl, T7⟩
                  · go_simp
                    have T8 : Sep w ([boxR _ (.cells #[.int .i64 0, .int .i64 0, .string ⟨#[]⟩] 33)] ++ basega) _ := Sep.alloc T0 (.cells #[.int .i64 0, .int .i64 0, .string ⟨#[]⟩] 33)
                    try simp only [size_drew, World.size_alloc] at T8
                    clear hH
                    refine hK.out _ _ (Kbasega.out _ [_] T8) (fun hH => ?_)
                    clear hK K
                    refine readyT [2] ?_
                    refine consT (fun K hK => ?_) AllReadyH.nil
                    go_simp
                    go_wp2_with (go_at_call 17; refine (KNga.out _ [_] T8).mono ?_; rintro e w9 ⟨rfl, T9⟩)
                    clear hH
                    refine hK.out _ _ (Kbasega.out _ [_] T9) (fun hH => ?_)
                    clear hK K
                    refine takeT 4 hH (hy := .inl ⟨by rfl, by (intro w hSw; try obtain ⟨u0, u1, u2⟩ := hSw); (go_simp; try rfl)⟩) (h := ?_)
                    simp only [Act.put, List.setIfInBounds_toArray, List.set_cons_zero, List.set_cons_succ]
                    refine readyT [5] ?_
                    refine consT (fun K hK => ?_) AllReadyH.nil
                    go_simp
                    go_wp2_with (go_at_call 16; refine (KFga.out _ [_] T9).mono ?_; rintro e w10 ⟨rfl, T10⟩)
                    clear hH
                    refine hK.out _ _ (Kbasega.out _ [_] T10) (fun hH => ?_)
                    clear hK K
                    refine takeT 6 hH (hy := .inl ⟨by rfl, by (intro w hSw; try obtain ⟨u0, u1, u2⟩ := hSw); (go_simp; try rfl)⟩) (h := ?_)
                    simp only [Act.put, List.setIfInBounds_toArray, List.set_cons_zero, List.set_cons_succ]
                    refine takeT 7 hH (hy := .inl ⟨by rfl, by (intro w hSw; try obtain ⟨u0, u1, u2⟩ := hSw); (go_simp; try rfl)⟩) (h := ?_)
                    simp only [Act.put, List.setIfInBounds_toArray, List.set_cons_zero, List.set_cons_succ]
                    refine takeT 8 hH (hy := .inl ⟨by rfl, by (intro w hSw; try obtain ⟨u0, u1, u2⟩ := hSw); (go_simp; try rfl)⟩) (h := ?_)
                    simp only [Act.put, List.setIfInBounds_toArray, List.set_cons_zero, List.set_cons_succ]
                    refine readyT [10] ?_
                    refine consT (fun K hK => ?_) AllReadyH.nil
                    have hz := T10.box 0 rfl
                    have z0 := cellAt hz 0 (v := .int .i64 0) rfl
                    have z1 := cellAt hz 1 (v := .int .i64 0) rfl
                    have z2 := cellAt hz 2 (v := .string ⟨#[]⟩) rfl
                    have z3 := frozenAt hz 0
                    have z4 := frozenAt hz 1
                    have z5 := frozenAt hz 2
                    go_simp
                    clear hz z0 z1 z2 z3 z4 z5
                    clear hH
                    have T11 : Sep w ([boxR _ (.cells #[.int .i64 (ga.getD V.zero).kind, .int .i64 (ga.getD V.zero).n, .string (ga.getD V.zero).s] 33)] ++ basega) _ := (Sep.setBox (cs := #[.int .i64 (ga.getD V.zero).kind, .int .i64 (ga.getD V.zero).n, .string ⟨#[]⟩]) (t := 33) (Sep.setBox (cs := #[.int .i64 (ga.getD V.zero).kind, .int .i64 0, .string ⟨#[]⟩]) (t := 33) (Sep.setBox (cs := #[.int .i64 0, .int .i64 0, .string ⟨#[]⟩]) (t := 33) T10 0 rfl 0 (.int .i64 (ga.getD V.zero).kind)) 0 rfl 1 (.int .i64 (ga.getD V.zero).n)) 0 rfl 2 (.string (ga.getD V.zero).s))
                    try simp only [size_drew, World.size_alloc] at T11
                    refine hK.out _ _ (Kbasega.out _ [_] T11) (fun hH => ?_)
                    clear hK K
                    refine takeT 11 hH (hy := .inl ⟨by rfl, by (intro w hSw; try obtain ⟨u0, u1, u2⟩ := hSw); (go_simp; try rfl)⟩) (h := ?_)
                    simp only [Act.put, List.setIfInBounds_toArray, List.set_cons_zero, List.set_cons_succ]
                    refine wpAnyH_done (by kernel_rfl) ?_ _
                    as_aux_lemma =>
                      go_wp2_with fail
                      go_meet
                      exact ⟨_, rfl, rfl, T11⟩
              case rest =>
                obtain ⟨qga, rfl, rfl, S⟩ := hcut
                rw [Hbasega.out] at S
                clear KNga KFga Kbasega
                replace S : Sep w (boxR qga (.cells #[.int .i64 (ga.getD V.zero).kind, .int .i64 (ga.getD V.zero).n, .string (ga.getD V.zero).s] 33) :: boxR qgb (.cells #[.int .i64 (gb.getD V.zero).kind, .int .i64 (gb.getD V.zero).n, .string (gb.getD V.zero).s] 33) :: valsR (.slice la L.length lc) L :: boxR x10 (.cells #[.int .i64 cc.kind, .int .i64 cc.n, .string cc.s] 33) :: boxR x9 (.cells #[.int .i64 cb.kind, .int .i64 cb.n, .string cb.s] 33) :: boxR x8 (.cells #[.int .i64 ca.kind, .int .i64 ca.n, .string ca.s] 33) :: valsR (.slice oa out.length oc) out :: heapR h H :: boxR (b + 1) (.cells #[.int .i64 i0, .int .i64 i1, .int .i64 i2] 26) :: boxR b (.cells #[sB, sH] 25) :: []) wc := S
                obtain ⟨b1, hb1⟩ : ∃ gx_, (gb.isSome) = gx_ := ⟨_, rfl⟩
                obtain ⟨b2, hb2⟩ : ∃ gx_, (ga.isSome) = gx_ := ⟨_, rfl⟩
                rw [hb1, hb2] at HT ⊢
                replace S : Hid (Sep w (valsR (.slice la L.length lc) L :: boxR x10 (.cells #[.int .i64 cc.kind, .int .i64 cc.n, .string cc.s] 33) :: boxR x9 (.cells #[.int .i64 cb.kind, .int .i64 cb.n, .string cb.s] 33) :: boxR x8 (.cells #[.int .i64 ca.kind, .int .i64 ca.n, .string ca.s] 33) :: valsR (.slice oa out.length oc) out :: heapR h H :: boxR (b + 1) (.cells #[.int .i64 i0, .int .i64 i1, .int .i64 i2] 26) :: boxR b (.cells #[sB, sH] 25) :: []) _) := Lib.hid S.tail.tail
                have HK := Lib.hid HG.out.2.2
                clear hb1 hb2 HG
                cases AB <;> cases b1 <;> cases b2
                · go_wp2
                  all_goals first | rfl | (refine ⟨⟨k + 1, by have := HK.out; omega, by go_num, S.out⟩, by have := HK.out; simp [intOf]; omega⟩)
                · go_wp2
                  all_goals first | rfl | (refine ⟨⟨k + 1, by have := HK.out; omega, by go_num, S.out⟩, by have := HK.out; simp [intOf]; omega⟩)
                · go_wp2
                  all_goals first | rfl | (refine ⟨⟨k + 1, by have := HK.out; omega, by go_num, S.out⟩, by have := HK.out; simp [intOf]; omega⟩)
                · go_wp2
                  all_goals first | rfl | (refine ⟨⟨k + 1, by have := HK.out; omega, by go_num, S.out⟩, by have := HK.out; simp [intOf]; omega⟩)
                · go_wp2
                  all_goals first | rfl | (refine ⟨⟨k + 1, by have := HK.out; omega, by go_num, S.out⟩, by have := HK.out; simp [intOf]; omega⟩)
                · go_wp2
                  all_goals first | rfl | (refine ⟨⟨k + 1, by have := HK.out; omega, by go_num, S.out⟩, by have := HK.out; simp [intOf]; omega⟩)
                · exact absurd (HT.out rfl rfl) (by decide)
                · go_wp2
                  all_goals first | rfl | (refine ⟨⟨k + 1, by have := HK.out; omega, by go_num, S.out⟩, by have := HK.out; simp [intOf]; omega⟩)
          · obtain rfl : k = 4 := by omega
            clear hk4 hk FS
            have d0 := cellAt (S.box (b := x8) 3 rfl) 0 (v := .int .i64 ca.kind) rfl
            have d1 := cellAt (S.box (b := x8) 3 rfl) 1 (v := .int .i64 ca.n) rfl
            have d2 := cellAt (S.box (b := x8) 3 rfl) 2 (v := .string ca.s) rfl
            have M := Lib.hid (ks_inst S 5 rfl HM.out.fit (by omega) ca Hca.out.1)
            clear S
            go_wp2_with fail
            refine M.out.mono ?_
            rintro e w12 ⟨rfl, S⟩
            clear M d0 d1 d2
            replace S : Sep w (valsR (.slice la L.length lc) L :: boxR x10 (.cells #[.int .i64 cc.kind, .int .i64 cc.n, .string cc.s] 33) :: boxR x9 (.cells #[.int .i64 cb.kind, .int .i64 cb.n, .string cb.s] 33) :: boxR x8 (.cells #[.int .i64 ca.kind, .int .i64 ca.n, .string ca.s] 33) :: valsR (.slice oa out.length oc) out :: heapR h (H.add (instO (H.name ca) (HeapM.name_le H ca) ca)) :: boxR (b + 1) (.cells #[.int .i64 i0, .int .i64 i1, .int .i64 i2] 26) :: boxR b (.cells #[sB, sH] 25) :: []) _ := S
            have hn : okI (H.last + 1) := okI_of (by have := HM.out.last; omega)
            obtain ⟨r, hr⟩ : ∃ r, r = V.ref (H.last + 1) hn := ⟨_, rfl⟩
            have e1 : Value.agg #[.int .i64 4, .int .i64 (H.last + 1), .string ⟨#[]⟩] = .agg #[.int .i64 r.kind, .int .i64 r.n, .string r.s] := by rw [hr]; rfl
            rw [e1]
            have G1 := Lib.hid (HM.out.fit.G.add (instO (H.name ca) (HeapM.name_le H ca) ca))
            obtain ⟨H1, hH1⟩ : ∃ gx_, (H.add (instO (H.name ca) (HeapM.name_le H ca) ca)) = gx_ := ⟨_, rfl⟩
            have hcr : H1.isClass r = false := by
              rw [← hH1, hr]
              unfold HeapM.isClass
              rw [kind_add HM.out.fit.G, if_pos ⟨rfl, rfl⟩]; rfl
            have Q1 : H1.subM r ca = false := by unfold HeapM.subM; rw [order_no hcr]; simp
            have Q2 : H1.subM ca r = false := by unfold HeapM.subM; rw [hcr]; rfl
            replace S : Sep w (valsR (.slice la L.length lc) L :: boxR x10 (.cells #[.int .i64 cc.kind, .int .i64 cc.n, .string cc.s] 33) :: boxR x9 (.cells #[.int .i64 cb.kind, .int .i64 cb.n, .string cb.s] 33) :: boxR x8 (.cells #[.int .i64 ca.kind, .int .i64 ca.n, .string ca.s] 33) :: valsR (.slice oa out.length oc) out :: heapR h H1 :: boxR (b + 1) (.cells #[.int .i64 i0, .int .i64 i1, .int .i64 i2] 26) :: boxR b (.cells #[sB, sH] 25) :: []) w12 := by rw [← hH1]; exact S
            rw [hH1] at G1
            have HQ := Lib.hid (And.intro Q1 Q2)
            clear hH1 hcr Q1 Q2 hr e1 hn
            obtain ⟨x21, hx21⟩ : ∃ gx_, (w12.heap.size) = gx_ := ⟨_, rfl⟩
            replace S := (S.alloc (.cells #[.int .i64 r.kind, .int .i64 r.n, .string r.s] 33))
            simp only [World.size_alloc, hx21] at S
            replace S : Sep w (boxR x21 (.cells #[.int .i64 r.kind, .int .i64 r.n, .string r.s] 33) :: valsR (.slice la L.length lc) L :: boxR x10 (.cells #[.int .i64 cc.kind, .int .i64 cc.n, .string cc.s] 33) :: boxR x9 (.cells #[.int .i64 cb.kind, .int .i64 cb.n, .string cb.s] 33) :: boxR x8 (.cells #[.int .i64 ca.kind, .int .i64 ca.n, .string ca.s] 33) :: valsR (.slice oa out.length oc) out :: heapR h H1 :: boxR (b + 1) (.cells #[.int .i64 i0, .int .i64 i1, .int .i64 i2] 26) :: boxR b (.cells #[sB, sH] 25) :: []) _ := S
            have d0 := cellAt (S.box (b := x21) 0 rfl) 0 (v := .int .i64 r.kind) rfl
            have d1 := cellAt (S.box (b := x21) 0 rfl) 1 (v := .int .i64 r.n) rfl
            have d2 := cellAt (S.box (b := x21) 0 rfl) 2 (v := .string r.s) rfl
            have d3 := cellAt (S.box (b := x8) 4 rfl) 0 (v := .int .i64 ca.kind) rfl
            have d4 := cellAt (S.box (b := x8) 4 rfl) 1 (v := .int .i64 ca.n) rfl
            have d5 := cellAt (S.box (b := x8) 4 rfl) 2 (v := .string ca.s) rfl
            have M := Lib.hid (ks_sub S 6 rfl G1.out (by simp [ObjM.vals, instO]) r ca false HQ.out.1)
            clear S
            go_wp2_with fail
            try simp only [hx21]
            refine M.out.mono ?_
            rintro e w13 ⟨rfl, S⟩
            clear M d0 d1 d2 d3 d4 d5 hx21
            replace S : Sep w (boxR x21 (.cells #[.int .i64 r.kind, .int .i64 r.n, .string r.s] 33) :: valsR (.slice la L.length lc) L :: boxR x10 (.cells #[.int .i64 cc.kind, .int .i64 cc.n, .string cc.s] 33) :: boxR x9 (.cells #[.int .i64 cb.kind, .int .i64 cb.n, .string cb.s] 33) :: boxR x8 (.cells #[.int .i64 ca.kind, .int .i64 ca.n, .string ca.s] 33) :: valsR (.slice oa out.length oc) out :: heapR h H1 :: boxR (b + 1) (.cells #[.int .i64 i0, .int .i64 i1, .int .i64 i2] 26) :: boxR b (.cells #[sB, sH] 25) :: []) _ := S
            have d0 := cellAt (S.box (b := x8) 4 rfl) 0 (v := .int .i64 ca.kind) rfl
            have d1 := cellAt (S.box (b := x8) 4 rfl) 1 (v := .int .i64 ca.n) rfl
            have d2 := cellAt (S.box (b := x8) 4 rfl) 2 (v := .string ca.s) rfl
            have d3 := cellAt (S.box (b := x21) 0 rfl) 0 (v := .int .i64 r.kind) rfl
            have d4 := cellAt (S.box (b := x21) 0 rfl) 1 (v := .int .i64 r.n) rfl
            have d5 := cellAt (S.box (b := x21) 0 rfl) 2 (v := .string r.s) rfl
            have M := Lib.hid (ks_sub S 6 rfl G1.out (by simp [ObjM.vals, instO]) ca r false HQ.out.2)
            clear S
            go_wp2_with fail
            refine M.out.mono ?_
            rintro e w14 ⟨rfl, S⟩
            clear M d0 d1 d2 d3 d4 d5
            replace S := Lib.hid S.below
            go_wp2
            go_ret
            exact ⟨by simp, S.out⟩
set_option maxRecDepth 100000 in
theorem lifted (os : Os) (started : os.Started) (H : Type) (enc : TypeId × Value → H) :
    ReturnsInHanded {} Try.checked os 3 .any (Rows.objectSubsSpec.pre6 enc Try.prog Try.f3 Rows.objectSubsRow.domain false) (Rows.objectSubsSpec.post enc Try.prog Try.f3 false true false false) := by
  refine law_lift (C := Try.checked) own started (by kernel_rfl) Try.func3
    (ChangeSpec.witness6 (enc := enc) (C := Try.checked) false ⟨#[], #[.agg #[.slice none 0 0, .slice none 0 0], .agg #[.int .i64 0, .int .i64 0, .int .i64 0]], []⟩ 8 (by kernel_rfl) (by kernel_rfl) (by kernel_rfl) (by kernel_rfl))
    (by kernel_rfl) (by kernel_rfl) rfl (fun ds h => by
      match ds, h with
      | [d1, d2], _ => exact ⟨rfl, rfl, rfl⟩) rfl Try.underlying4 ?_
  intro W base args ds ps hval hA hlt hwt hsh
  rw [Try.params3] at hA hval
  obtain ⟨v0, vs0, d0, ds0, p0, q0, hargs, rfl, rfl, h0, r0⟩ := trodAll_cons hA
  obtain ⟨v1, vs1, d1, ds1, p1, q1, rfl, rfl, rfl, h1, r1⟩ := trodAll_cons r0
  obtain ⟨rfl, rfl, rfl⟩ := trodAll_nil r1
  obtain rfl : args = #[v0, v1] := by cases args; simp_all
  obtain ⟨cs0, rfl, hsz0⟩ := okWide_struct Try.underlying25 (hval 0 25 v0 rfl rfl)
  obtain ⟨fuel0, hf0⟩ := h0
  obtain ⟨sB0, sH0, e0, sI0⟩ := open_some (cs := cs0.toList) hf0
  obtain rfl : cs0 = [sB0, sH0].toArray := by rw [← e0]
  obtain ⟨cs1, rfl, hsz1⟩ := okWide_array Try.underlying26 (hval 1 26 v1 rfl rfl)
  obtain ⟨fuel1, hf1⟩ := h1
  obtain ⟨k1a, k1b, k1c, e1⟩ := ints3_of_trod (cs := cs1.toList) hf1
  obtain rfl : cs1 = [.int .i64 k1a, .int .i64 k1b, .int .i64 k1c].toArray := by rw [← e1]
  -- WALK
  exact walk W _ _ sI0 _ _ _
theorem proved : Rows.ObjectSubsSaid :=
  OpenClaim.holds_of_wide 3 Try.f3 rfl rfl rfl rfl rfl rfl rfl ⟨rfl, rfl, rfl, rfl, rfl⟩ rfl rfl rfl rfl rfl (by kernel_rfl) Try.func3 (by kernel_rfl)
    (of_decide_eq_true (by kernel_rfl)) (by unfold Func.isWrapper; first | (rw [if_pos (by decide +kernel)]; kernel_rfl) | (rw [if_neg (by decide +kernel)]; exact ⟨rfl, rfl⟩))
    (fun os started H enc _ => lifted os started H enc)
#print axioms proved
end Go.Proofs.Ytkocenlglodklaa.objectSubs
