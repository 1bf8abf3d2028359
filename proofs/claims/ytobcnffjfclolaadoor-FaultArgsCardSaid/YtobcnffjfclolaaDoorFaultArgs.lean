/-
  FaultArgs: for any plan (of a size that is looked at) the law returns true: an instance has what was raised with it as its args, and is of the class of that name. No condition.
-/
import Derived.Test.YtobcnffjfclolaaDoorFaultT
import Derived.Test.YtobcnffjfclolaaDoorFaultP
import Derived.Test.YtobcnffjfclolaaDoorRegI
import Derived.Test.YtobcnffjfclolaaDoorLaid
namespace Go.Proofs.YtobcnffjfclolaaDoor.faultArgs
set_option linter.unusedSimpArgs false
open Go.ChangeShapes Go.WideShapes Go.ChangeAt Go.RowKit
set_option linter.unusedVariables false
section
variable {w W : World} {Rs : List Res} {h : Nat} {H : HeapM}
theorem live_len (H : HeapM) : H.live 0 = H.objs.length := by
  unfold HeapM.live
  rw [List.filter_eq_self.2 (fun p _ => by simp)]
/-- What the heap is like that Make leaves. -/
structure ArgsF (H' : HeapM) (vn tn cn bn : V) (i : Nat) (its : List V) (m : Int) : Prop where
  get : H'.get vn argsK = some tn
  of : H'.ofM vn = some cn
  kindA : H'.kind tn = 2
  itemsA : H'.items tn = its
  nameC : H'.name cn = nameF i
  nameV : H'.name vn = nameF i
  is : H'.isF bn vn = true
  cls : H'.isClsF bn vn = false
  live : (H'.live 0 : Int) = m + 2
  size : (H'.pairs vn).length = 1
  fit : H'.Fit 5300
def itsF (has : Bool) (a : V) : List V := if has = true then [a] else []
theorem args_f {l : List V} {L : Int} (C : LaidC H l L) {i : Nat} (hi : i < 17) (its : List V) (hl : its.length ≤ 1) (hv : okI (H.last + 2)) (ht : okI (H.last + 1)) (hc : okI (L + 2 + (i : Int))) (hb : okI (L + 19)) :
    ArgsF (H.madeF (refN (L + 2 + (i : Int))) its) (V.ref (H.last + 2) hv) (V.ref (H.last + 1) ht) (V.ref (L + 2 + (i : Int)) hc) (V.ref (L + 19) hb) i its (H.live 0) := by
  have hr := C.rng
  have hla := C.last
  have I := inst_of C.fit C.cls C.boot ⟨by omega, by omega⟩ ⟨by omega, by omega⟩ hi its
  have e := madeF_eq C.fit ⟨by omega, by omega⟩ (refN (L + 2 + (i : Int))) its
  have M := I.made
  refine ⟨?_, ?_, ?_, ?_, ?_, ?_, I.is hb hv, ?_, ?_, ?_, M.fit.more (by omega)⟩
  · have := M.getV hv
    rw [refN_ok ht] at this; exact this
  · exact (I.of hv).trans (by rw [refN_ok hc])
  · unfold HeapM.kind; rw [M.tup ht]; rfl
  · unfold HeapM.items; rw [M.tup ht]; rfl
  · have := I.boot.cls i hi hc
    unfold HeapM.name; rw [this]; rfl
  · have h1 := M.nameV hv C.fit.G (class_some I.cls)
    rw [h1]
    have := C.boot.cls i hi hc
    rw [refN_ok hc]
    unfold HeapM.name; rw [this]; rfl
  · rw [I.boot.isCls ⟨by omega, by omega⟩ hb]
    unfold HeapM.subM
    rw [order_no (M.clsV hv)]; simp
  · rw [e, live_len, live_len]
    show (((H.objs ++ [_]) ++ [_]).length : Int) = _
    simp
  · unfold HeapM.pairs; rw [M.inst hv]; rfl
theorem kx_make {l : List V} {L : Int} (C : LaidC H l L) (S : Sep w Rs W) (j : Nat) (hj : Rs[j]? = some (heapR h H)) {i : Nat} (hi : i < 17) (y : V) (has : Bool) (vn : Int) (hvn : H.last + 2 = vn) :
    Calls Tryd.prog 16 #[.pointer (some ⟨h, 0, none⟩), .agg #[.int .i64 4, .int .i64 (L + 19), .string ⟨#[]⟩], .agg #[.string (nameF i), .int .i64 y.kind, .int .i64 y.n, .string y.s, .bool has]] W fun e W' => e = .returned (.agg #[.int .i64 4, .int .i64 vn, .string ⟨#[]⟩]) ∧ Sep w (Rs.set j (heapR h (H.madeF (refN (L + 2 + (i : Int))) (itsF has y)))) W' := by
  subst hvn
  have hr := C.rng
  have hb : okI (L + 19) := okI_of ⟨by omega, by omega⟩
  have hcl := C.boot.class_ ⟨by omega, by omega⟩ hb hi (nameF_le i)
  cases has with
  | true => exact fmake_true S j hj C.fit (by omega) (V.ref (L + 19) hb) (nameF i) (nameF_le i) y _ hcl
  | false => exact fmake_false S j hj C.fit (by omega) (V.ref (L + 19) hb) (nameF i) (nameF_le i) y _ hcl
theorem kx_of {H : HeapM} (S : Sep w Rs W) (j : Nat) (hj : Rs[j]? = some (heapR h H)) (vn cn : Int) (hv : okI vn) (hc : okI cn) (e : H.ofM (V.ref vn hv) = some (V.ref cn hc)) :
    Calls Tryd.prog 31 #[.pointer (some ⟨h, 0, none⟩), .agg #[.int .i64 4, .int .i64 vn, .string ⟨#[]⟩]] W fun e W' => e = .returned (.tuple #[.agg #[.int .i64 4, .int .i64 cn, .string ⟨#[]⟩], .bool true]) ∧ Sep w Rs W' := by
  have := of_ok S j hj (V.ref vn hv)
  rw [e] at this; exact this
theorem kx_is {H : HeapM} (S : Sep w Rs W) (j : Nat) (hj : Rs[j]? = some (heapR h H)) {N : Nat} (G : H.Good N) (hN : N ≤ 4000000) (bn v : V) (d : Bool) (hd : H.isF bn v = d) :
    Calls Tryd.prog 29 #[.pointer (some ⟨h, 0, none⟩), .agg #[.int .i64 bn.kind, .int .i64 bn.n, .string bn.s], .agg #[.int .i64 v.kind, .int .i64 v.n, .string v.s]] W fun e W' => e = .returned (.bool d) ∧ Sep w Rs W' := by
  have := fis_ok S j hj G hN bn v
  rw [hd] at this; exact this
theorem kx_cls {H : HeapM} (S : Sep w Rs W) (j : Nat) (hj : Rs[j]? = some (heapR h H)) {N : Nat} (G : H.Good N) (hN : N ≤ 4000000) (bn v : V) (d : Bool) (hd : H.isClsF bn v = d) :
    Calls Tryd.prog 28 #[.pointer (some ⟨h, 0, none⟩), .agg #[.int .i64 bn.kind, .int .i64 bn.n, .string bn.s], .agg #[.int .i64 v.kind, .int .i64 v.n, .string v.s]] W fun e W' => e = .returned (.bool d) ∧ Sep w Rs W' := by
  have := fiscls_ok S j hj G hN bn v
  rw [hd] at this; exact this
theorem kx_live {H : HeapM} (S : Sep w Rs W) (j : Nat) (hj : Rs[j]? = some (heapR h H)) {N : Nat} (G : H.Good N) (hN : N ≤ 4000000) (m : Int) (hm : (H.live 0 : Int) = m) :
    Calls Tryd.prog 30 #[.pointer (some ⟨h, 0, none⟩), .int .i64 0] W fun e W' => e = .returned (.int .i64 m) ∧ Sep w Rs W' := by
  subst hm
  exact (S.live j hj G hN 0).mono fun e W' ⟨e1, e2, _⟩ => ⟨e1, e2⟩
theorem kx_size {H : HeapM} (S : Sep w Rs W) (j : Nat) (hj : Rs[j]? = some (heapR h H)) (v : V) (n : Nat) (hn : (H.pairs v).length = n) :
    Calls Tryd.prog 35 #[.pointer (some ⟨h, 0, none⟩), .agg #[.int .i64 v.kind, .int .i64 v.n, .string v.s]] W fun e W' => e = .returned (.int .i64 n) ∧ Sep w Rs W' := by
  subst hn
  exact (S.size j hj v).mono fun e W' ⟨e1, e2, _⟩ => ⟨e1, e2⟩
end
set_option maxRecDepth 100000 in
set_option maxHeartbeats 12800000 in
theorem walk_at (w : World) (hG : GlobF w) {ba ia : Option Addr} {bc ic : Nat} {svs : List SlV} {B : List (List Int)} {I : List Int} (P : PlanIn w ba bc svs B ia ic I) (a : Int) (i : Int) (y : V) (has : Bool) :
    Calls Tryd.prog 7 #[.agg #[.int .i64 a, .slice ba svs.length bc, .slice ia I.length ic], .int .i64 i, .agg #[.int .i64 y.kind, .int .i64 y.n, .string y.s], .bool has] w fun e W' => e = .returned (.bool true) ∧ Below w.heap.size w W' := by
  have HGL := Lib.hid hG
  have HP := Lib.hid P
  obtain ⟨b, hb⟩ : ∃ gx_, (w.heap.size) = gx_ := ⟨_, rfl⟩
  have S := ((Sep.start (Below.refl w.heap.size w)).alloc (.cells #[.int .i64 a, .slice ba svs.length bc, .slice ia I.length ic] 46)).alloc (.cells #[.int .i64 y.kind, .int .i64 y.n, .string y.s] 31)
  simp only [World.size_alloc, hb] at S
  replace S : Sep w (boxR (b + 1) (.cells #[.int .i64 y.kind, .int .i64 y.n, .string y.s] 31) :: boxR b (.cells #[.int .i64 a, .slice ba svs.length bc, .slice ia I.length ic] 46) :: []) _ := S
  have M0 := Lib.hid ((Big_ok P S.below a).mono fun e W1 (hh : BigDone _ a B I e W1) => (by obtain ⟨r, h1, h2, h3⟩ := hh; exact ⟨r, h1, S.later h2, h3⟩ : ∃ r : Bool, e = .returned (.bool r) ∧ Sep w (boxR (b + 1) (.cells #[.int .i64 y.kind, .int .i64 y.n, .string y.s] 31) :: boxR b (.cells #[.int .i64 a, .slice ba svs.length bc, .slice ia I.length ic] 46) :: []) W1 ∧ (r = false → a ≤ 20 ∧ B.length ≤ 20 ∧ (∀ r ∈ B, r.length ≤ 6) ∧ I.length ≤ 20)))
  have d0 := cellAt (S.box (b := b) 1 rfl) 0 (v := .int .i64 a) rfl
  have d1 := cellAt (S.box (b := b) 1 rfl) 1 (v := .slice ba svs.length bc) rfl
  have d2 := cellAt (S.box (b := b) 1 rfl) 2 (v := .slice ia I.length ic) rfl
  clear S P hG
  go_enter Tryd.func7, Tryd.ntmps7
  go_wp2_with fail
  try simp only [hb]
  refine M0.out.mono ?_
  rintro e w1 ⟨r, rfl, S, D⟩
  clear M0 hb d0 d1 d2
  cases r with
  | true =>
    have HS := Lib.hid S.below
    clear S D
    go_wp2
    go_ret
    exact ⟨rfl, HS.out⟩
  | false =>
    have D := D rfl
    have d0 := cellAt (S.box (b := b) 1 rfl) 0 (v := .int .i64 a) rfl
    have d1 := cellAt (S.box (b := b) 1 rfl) 1 (v := .slice ba svs.length bc) rfl
    have d2 := cellAt (S.box (b := b) 1 rfl) 2 (v := .slice ia I.length ic) rfl
    have M := Lib.hid (laid_all S HGL.out HP.out a D)
    clear S
    go_wp2_with fail
    refine M.out.mono ?_
    rintro e w2 ⟨h, oa, oc, H, l, L, rfl, C, S⟩
    clear M d0 d1 d2
    clear HP D
    replace S : Sep w (valsR (.slice oa l.length oc) l :: heapR h H :: boxR (b + 1) (.cells #[.int .i64 y.kind, .int .i64 y.n, .string y.s] 31) :: boxR b (.cells #[.int .i64 a, .slice ba svs.length bc, .slice ia I.length ic] 46) :: []) _ := S
    obtain ⟨x10, hx10⟩ : ∃ gx_, (w2.heap.size) = gx_ := ⟨_, rfl⟩
    replace S := (S.alloc (.cells #[.int .i64 4, .int .i64 (L + 19), .string ⟨#[]⟩] 31))
    simp only [World.size_alloc, hx10] at S
    replace S : Sep w (boxR x10 (.cells #[.int .i64 4, .int .i64 (L + 19), .string ⟨#[]⟩] 31) :: valsR (.slice oa l.length oc) l :: heapR h H :: boxR (b + 1) (.cells #[.int .i64 y.kind, .int .i64 y.n, .string y.s] 31) :: boxR b (.cells #[.int .i64 a, .slice ba svs.length bc, .slice ia I.length ic] 46) :: []) _ := S
    have HC := Lib.hid C
    have hb19 : okI (L + 19) := okI_of (by have := C.rng; omega)
    clear C
    have M := Lib.hid (fnames_ok S HGL.out)
    clear S
    go_wp2_with fail
    try simp only [hx10]
    refine M.out.mono ?_
    rintro e w3 ⟨na, nc, rfl, S⟩
    clear M hx10
    obtain ⟨g, rfl⟩ : ∃ g, na = some ⟨g, 0, none⟩ := by
      rcases (S.row 0 rfl).shape with ⟨h1, h2⟩ | ⟨g, cap, h1, _⟩
      · exact absurd (congrArg List.length h2) (by rw [takeN_len]; decide)
      · exact ⟨g, (Value.slice.inj h1).1⟩
    replace S : Sep w (strsR (.slice (some ⟨g, 0, none⟩) 17 nc) (takeN 17) :: boxR x10 (.cells #[.int .i64 4, .int .i64 (L + 19), .string ⟨#[]⟩] 31) :: valsR (.slice oa l.length oc) l :: heapR h H :: boxR (b + 1) (.cells #[.int .i64 y.kind, .int .i64 y.n, .string y.s] 31) :: boxR b (.cells #[.int .i64 a, .slice ba svs.length bc, .slice ia I.length ic] 46) :: []) _ := S
    by_cases h0 : i < 0
    · have M := Lib.hid (raised_ok S HGL.out)
      clear S
      go_wp2_with fail
      refine M.out.mono ?_
      rintro e w4 ⟨rfl, S⟩
      have HS := Lib.hid S.below
      clear S M
      go_wp2
      go_ret
      exact ⟨rfl, HS.out⟩
    by_cases h17 : 17 ≤ i
    · have M := Lib.hid (raised_ok S HGL.out)
      clear S
      have h0' : 0 ≤ i := by omega
      clear h0
      go_wp2_with fail
      refine M.out.mono ?_
      rintro e w4 ⟨rfl, S⟩
      have HS := Lib.hid S.below
      clear S M
      go_wp2
      go_ret
      exact ⟨rfl, HS.out⟩
    obtain ⟨k, rfl⟩ := Int.eq_ofNat_of_zero_le (by omega : 0 ≤ i)
    have hk0 : (0 : Int) ≤ k := by omega
    have hk1 : (k : Int) < 17 := by omega
    have HK := Lib.hid (show k < 17 by omega)
    clear h0 h17
    obtain ⟨m, hm⟩ : ∃ m : Int, (H.live 0 : Int) = m := ⟨_, rfl⟩
    have hm1 : 0 ≤ m ∧ m ≤ 100000 := by
      have h1 := HC.out.fit.G.wt
      have h2 := live_len H
      unfold HeapM.weight at h1
      omega
    obtain ⟨hm0, hm2⟩ := hm1
    obtain ⟨vn, hvn⟩ : ∃ vn, H.last + 2 = vn := ⟨_, rfl⟩
    obtain ⟨tn, htn⟩ : ∃ tn, H.last + 1 = tn := ⟨_, rfl⟩
    obtain ⟨cn, hcn⟩ : ∃ cn, L + 2 + (k : Int) = cn := ⟨_, rfl⟩
    have hov : okI vn := okI_of (by have := HC.out.last; have := HC.out.rng; omega)
    have hot : okI tn := okI_of (by have := HC.out.last; have := HC.out.rng; omega)
    have hoc : okI cn := okI_of (by have := HC.out.rng; omega)
    obtain ⟨H2, hH2⟩ : ∃ H2, H.madeF (refN (L + 2 + (k : Int))) (itsF has y) = H2 := ⟨_, rfl⟩
    have HF : Hid (ArgsF H2 (V.ref vn hov) (V.ref tn hot) (V.ref cn hoc) (V.ref (L + 19) hb19) k (itsF has y) m) := Lib.hid (by
      subst hvn htn hcn hm hH2
      exact args_f HC.out HK.out _ (by unfold itsF; split <;> simp) hov hot hoc hb19)
    have HM := Lib.hid (And.intro hm (And.intro hvn hH2))
    clear hm hvn htn hcn hH2
    have M := Lib.hid (kx_live S 3 rfl HC.out.fit.G (by omega) m HM.out.1)
    clear S
    go_wp2_with fail
    refine M.out.mono ?_
    rintro e w4 ⟨rfl, S⟩
    clear M
    replace S : Sep w (strsR (.slice (some ⟨g, 0, none⟩) 17 nc) (takeN 17) :: boxR x10 (.cells #[.int .i64 4, .int .i64 (L + 19), .string ⟨#[]⟩] 31) :: valsR (.slice oa l.length oc) l :: heapR h H :: boxR (b + 1) (.cells #[.int .i64 y.kind, .int .i64 y.n, .string y.s] 31) :: boxR b (.cells #[.int .i64 a, .slice ba svs.length bc, .slice ia I.length ic] 46) :: []) _ := S
    obtain ⟨baseA, hbaseA⟩ : ∃ base, base = strsR (.slice (some ⟨g, 0, none⟩) 17 nc) (takeN 17) :: boxR x10 (.cells #[.int .i64 4, .int .i64 (L + 19), .string ⟨#[]⟩] 31) :: valsR (.slice oa l.length oc) l :: heapR h H :: boxR (b + 1) (.cells #[.int .i64 y.kind, .int .i64 y.n, .string y.s] 31) :: boxR b (.cells #[.int .i64 a, .slice ba svs.length bc, .slice ia I.length ic] 46) :: [] := ⟨_, rfl⟩
    have HbaseA := Lib.hid hbaseA
    have KbaseA : Hid (∀ W (Q : List Res), Sep w (Q ++ baseA) W → W.cell? ⟨x10, 0, none⟩ = some (.int .i64 4) ∧ W.cell? ⟨x10, 1, none⟩ = some (.int .i64 (L + 19)) ∧ W.cell? ⟨x10, 2, none⟩ = some (.string ⟨#[]⟩) ∧ W.cell? ⟨b + 1, 0, none⟩ = some (.int .i64 y.kind) ∧ W.cell? ⟨b + 1, 1, none⟩ = some (.int .i64 y.n) ∧ W.cell? ⟨b + 1, 2, none⟩ = some (.string y.s) ∧ W.cell? ⟨g, k, none⟩ = some (.string (nameF k))) := Lib.hid fun W Q T => by
      rw [hbaseA] at T
      have i0 := T.box (b := x10) (o := .cells #[.int .i64 4, .int .i64 (L + 19), .string ⟨#[]⟩] 31) (Q.length + 1) (by rw [List.getElem?_append_right (by omega), Nat.add_sub_cancel_left]; rfl)
      have i1 := T.box (b := b + 1) (o := .cells #[.int .i64 y.kind, .int .i64 y.n, .string y.s] 31) (Q.length + 4) (by rw [List.getElem?_append_right (by omega), Nat.add_sub_cancel_left]; rfl)
      exact ⟨cellAt i0 0 rfl, cellAt i0 1 rfl, cellAt i0 2 rfl, cellAt i1 0 rfl, cellAt i1 1 rfl, cellAt i1 2 rfl, strs_cell T (Q.length + 0) (by rw [List.getElem?_append_right (by omega), Nat.add_sub_cancel_left]; rfl) HK.out⟩
    obtain ⟨baseB, hbaseB⟩ : ∃ base, base = strsR (.slice (some ⟨g, 0, none⟩) 17 nc) (takeN 17) :: boxR x10 (.cells #[.int .i64 4, .int .i64 (L + 19), .string ⟨#[]⟩] 31) :: valsR (.slice oa l.length oc) l :: heapR h H2 :: boxR (b + 1) (.cells #[.int .i64 y.kind, .int .i64 y.n, .string y.s] 31) :: boxR b (.cells #[.int .i64 a, .slice ba svs.length bc, .slice ia I.length ic] 46) :: [] := ⟨_, rfl⟩
    have HbaseB := Lib.hid hbaseB
    have KbaseB : Hid (∀ W (Q : List Res), Sep w (Q ++ baseB) W → W.cell? ⟨x10, 0, none⟩ = some (.int .i64 4) ∧ W.cell? ⟨x10, 1, none⟩ = some (.int .i64 (L + 19)) ∧ W.cell? ⟨x10, 2, none⟩ = some (.string ⟨#[]⟩) ∧ W.cell? ⟨b + 1, 0, none⟩ = some (.int .i64 y.kind) ∧ W.cell? ⟨b + 1, 1, none⟩ = some (.int .i64 y.n) ∧ W.cell? ⟨b + 1, 2, none⟩ = some (.string y.s) ∧ W.cell? ⟨g, k, none⟩ = some (.string (nameF k))) := Lib.hid fun W Q T => by
      rw [hbaseB] at T
      have i0 := T.box (b := x10) (o := .cells #[.int .i64 4, .int .i64 (L + 19), .string ⟨#[]⟩] 31) (Q.length + 1) (by rw [List.getElem?_append_right (by omega), Nat.add_sub_cancel_left]; rfl)
      have i1 := T.box (b := b + 1) (o := .cells #[.int .i64 y.kind, .int .i64 y.n, .string y.s] 31) (Q.length + 4) (by rw [List.getElem?_append_right (by omega), Nat.add_sub_cancel_left]; rfl)
      exact ⟨cellAt i0 0 rfl, cellAt i0 1 rfl, cellAt i0 2 rfl, cellAt i1 0 rfl, cellAt i1 1 rfl, cellAt i1 2 rfl, strs_cell T (Q.length + 0) (by rw [List.getElem?_append_right (by omega), Nat.add_sub_cancel_left]; rfl) HK.out⟩
    have KM : Hid (∀ W (Q : List Res), Sep w (Q ++ baseA) W → Calls Tryd.prog 16 #[.pointer (some ⟨h, 0, none⟩), .agg #[.int .i64 4, .int .i64 (L + 19), .string ⟨#[]⟩], .agg #[.string (nameF k), .int .i64 y.kind, .int .i64 y.n, .string y.s, .bool has]] W fun e W' => e = .returned (.agg #[.int .i64 4, .int .i64 vn, .string ⟨#[]⟩]) ∧ Sep w (Q ++ baseB) W') := Lib.hid fun W Q T => by
      rw [HbaseA.out] at T
      rw [HbaseB.out]
      have hh := kx_make HC.out T (Q.length + 3) (by rw [List.getElem?_append_right (by omega), Nat.add_sub_cancel_left]; rfl) HK.out y has vn HM.out.2.1
      rw [HM.out.2.2, List.set_append_right _ _ (by omega), Nat.add_sub_cancel_left] at hh
      exact hh
    replace S : Sep w (baseA) w4 := by rw [hbaseA]; exact S
    replace S := Lib.hid S
    clear hbaseA hbaseB
    go_upto_region 8 with fail
    go_cut [14] (fun s14 wx => ∃ qx, s14 = .pointer (some ⟨qx, 0, none⟩) ∧ Sep w (boxR qx (.cells #[.int .i64 4, .int .i64 vn, .string ⟨#[]⟩] 31) :: baseB) wx)
    case first =>
      have T0 : Sep w ([] ++ baseA) _ := S.out.drew
      clear S
      as_aux_lemma =>
        refine wp_region_held_drew (S := fun W => W.cell? ⟨x10, 0, none⟩ = some (.int .i64 4) ∧ W.cell? ⟨x10, 1, none⟩ = some (.int .i64 (L + 19)) ∧ W.cell? ⟨x10, 2, none⟩ = some (.string ⟨#[]⟩) ∧ W.cell? ⟨b + 1, 0, none⟩ = some (.int .i64 y.kind) ∧ W.cell? ⟨b + 1, 1, none⟩ = some (.int .i64 y.n) ∧ W.cell? ⟨b + 1, 2, none⟩ = some (.string y.s) ∧ W.cell? ⟨g, k, none⟩ = some (.string (nameF k))) (by kernel_rfl) (KbaseA.out _ [] T0) (fun hH => ?_)
        refine takeT 0 hH (hy := .inl ⟨by rfl, by (intro w hSw; try obtain ⟨u0, u1, u2, u3, u4, u5, v0⟩ := hSw); (go_simp; try rfl)⟩) (h := ?_)
        simp only [Act.put, List.setIfInBounds_toArray, List.set_cons_zero, List.set_cons_succ]
        refine takeT 1 hH (hy := .inl ⟨by rfl, by (intro w hSw; try obtain ⟨u0, u1, u2, u3, u4, u5, v0⟩ := hSw); (go_simp; try rfl)⟩) (h := ?_)
        simp only [Act.put, List.setIfInBounds_toArray, List.set_cons_zero, List.set_cons_succ]
        refine takeT 2 hH (hy := .inl ⟨by rfl, by (intro w hSw; try obtain ⟨u0, u1, u2, u3, u4, u5, v0⟩ := hSw); (go_simp; try rfl)⟩) (h := ?_)
        simp only [Act.put, List.setIfInBounds_toArray, List.set_cons_zero, List.set_cons_succ]
        refine takeT 3 hH (hy := .inl ⟨by rfl, by (intro w hSw; try obtain ⟨u0, u1, u2, u3, u4, u5, v0⟩ := hSw); (go_simp; try rfl)⟩) (h := ?_)
        simp only [Act.put, List.setIfInBounds_toArray, List.set_cons_zero, List.set_cons_succ]
        refine takeT 4 hH (hy := .inl ⟨by rfl, by (intro w hSw; try obtain ⟨u0, u1, u2, u3, u4, u5, v0⟩ := hSw); (go_simp; try rfl)⟩) (h := ?_)
        simp only [Act.put, List.setIfInBounds_toArray, List.set_cons_zero, List.set_cons_succ]
        refine takeT 5 hH (hy := .inl ⟨by rfl, by (intro w hSw; try obtain ⟨u0, u1, u2, u3, u4, u5, v0⟩ := hSw); (go_simp; try rfl)⟩) (h := ?_)
        simp only [Act.put, List.setIfInBounds_toArray, List.set_cons_zero, List.set_cons_succ]
        refine takeT 6 hH (hy := .inl ⟨by rfl, by (intro w hSw; try obtain ⟨u0, u1, u2, u3, u4, u5, v0⟩ := hSw); (go_simp; try rfl)⟩) (h := ?_)
        simp only [Act.put, List.setIfInBounds_toArray, List.set_cons_zero, List.set_cons_succ]
        refine takeT 7 hH (hy := .inl ⟨by rfl, by (intro w hSw; try obtain ⟨u0, u1, u2, u3, u4, u5, v0⟩ := hSw); (go_simp; try rfl)⟩) (h := ?_)
        simp only [Act.put, List.setIfInBounds_toArray, List.set_cons_zero, List.set_cons_succ]
        refine takeT 8 hH (hy := .inl ⟨by rfl, by (intro w hSw; try obtain ⟨u0, u1, u2, u3, u4, u5, v0⟩ := hSw); (go_simp; try rfl)⟩) (h := ?_)
        simp only [Act.put, List.setIfInBounds_toArray, List.set_cons_zero, List.set_cons_succ]
        refine readyT [9, 10] ?_
        refine consT (fun K hK => ?_) (consT (fun K hK => ?_) AllReadyH.nil)
        · go_simp
          go_wp2_with (go_at_call 16; refine (KM.out _ [] T0).mono ?_; rintro e w1 ⟨rfl, T1⟩)
          clear hH
          refine hK.out _ _ (KbaseB.out _ [] T1) (fun hH => ?_)
          clear hK K
          refine readyT [10] ?_
          refine consT (fun K hK => ?_) AllReadyH.nil
          go_simp
          have T2 : Sep w ([boxR _ (.cells #[.int .i64 0, .int .i64 0, .string ⟨#[]⟩] 31)] ++ baseB) _ := Sep.alloc T1 (.cells #[.int .i64 0, .int .i64 0, .string ⟨#[]⟩] 31)
          try simp only [size_drew, World.size_alloc] at T2
          clear hH
          refine hK.out _ _ (KbaseB.out _ [_] T2) (fun hH => ?_)
          clear hK K
          refine readyT [11] ?_
          refine consT (fun K hK => ?_) AllReadyH.nil
          have hz := T2.box 0 rfl
          have z0 := cellAt hz 0 (v := .int .i64 0) rfl
          have z1 := cellAt hz 1 (v := .int .i64 0) rfl
          have z2 := cellAt hz 2 (v := .string ⟨#[]⟩) rfl
          have z3 := frozenAt hz 0
          have z4 := frozenAt hz 1
          have z5 := frozenAt hz 2
          try simp only [World.cell?_drew, World.frozen?_drew] at z0 z1 z2 z3 z4 z5
          go_simp
          clear hz z0 z1 z2 z3 z4 z5
          clear hH
          first | (have T3 : Sep w ([boxR _ (.cells #[.int .i64 4, .int .i64 vn, .string ⟨#[]⟩] 31)] ++ baseB) _ := (Sep.alloc T1 (.cells #[.int .i64 4, .int .i64 vn, .string ⟨#[]⟩] 31)); (try simp only [size_drew, World.size_alloc] at T3); refine hK.out _ _ (KbaseB.out _ [_] T3) (fun hH => ?_)) | (have T3 : Sep w ([boxR _ (.cells #[.int .i64 4, .int .i64 vn, .string ⟨#[]⟩] 31)] ++ baseB) _ := (Sep.setBox (cs := #[.int .i64 4, .int .i64 vn, .string ⟨#[]⟩]) (t := 31) (Sep.setBox (cs := #[.int .i64 4, .int .i64 0, .string ⟨#[]⟩]) (t := 31) (Sep.setBox (cs := #[.int .i64 0, .int .i64 0, .string ⟨#[]⟩]) (t := 31) T2 0 rfl 0 (.int .i64 4)) 0 rfl 1 (.int .i64 vn)) 0 rfl 2 (.string ⟨#[]⟩)); (try simp only [size_drew, World.size_alloc] at T3); refine hK.out _ _ (KbaseB.out _ [_] T3) (fun hH => ?_))
          clear hK K
          refine wpAnyH_done (by kernel_rfl) ?_ _
          as_aux_lemma =>
            go_wp2_with fail
            go_meet
            exact ⟨_, rfl, T3⟩
        · go_simp
          have T4 : Sep w ([boxR _ (.cells #[.int .i64 0, .int .i64 0, .string ⟨#[]⟩] 31)] ++ baseA) _ := Sep.alloc T0 (.cells #[.int .i64 0, .int .i64 0, .string ⟨#[]⟩] 31)
          try simp only [size_drew, World.size_alloc] at T4
          clear hH
          refine hK.out _ _ (KbaseA.out _ [_] T4) (fun hH => ?_)
          clear hK K
          refine readyT [9] ?_
          refine consT (fun K hK => ?_) AllReadyH.nil
          go_simp
          go_wp2_with (go_at_call 16; refine (KM.out _ [_] T4).mono ?_; rintro e w5 ⟨rfl, T5⟩)
          clear hH
          refine hK.out _ _ (KbaseB.out _ [_] T5) (fun hH => ?_)
          clear hK K
          refine readyT [11] ?_
          refine consT (fun K hK => ?_) AllReadyH.nil
          have hz := T5.box 0 rfl
          have z0 := cellAt hz 0 (v := .int .i64 0) rfl
          have z1 := cellAt hz 1 (v := .int .i64 0) rfl
          have z2 := cellAt hz 2 (v := .string ⟨#[]⟩) rfl
          have z3 := frozenAt hz 0
          have z4 := frozenAt hz 1
          have z5 := frozenAt hz 2
          try simp only [World.cell?_drew, World.frozen?_drew] at z0 z1 z2 z3 z4 z5
          go_simp
          clear hz z0 z1 z2 z3 z4 z5
          clear hH
          have T6 : Sep w ([boxR _ (.cells #[.int .i64 4, .int .i64 vn, .string ⟨#[]⟩] 31)] ++ baseB) _ := (Sep.setBox (cs := #[.int .i64 4, .int .i64 vn, .string ⟨#[]⟩]) (t := 31) (Sep.setBox (cs := #[.int .i64 4, .int .i64 0, .string ⟨#[]⟩]) (t := 31) (Sep.setBox (cs := #[.int .i64 0, .int .i64 0, .string ⟨#[]⟩]) (t := 31) T5 0 rfl 0 (.int .i64 4)) 0 rfl 1 (.int .i64 vn)) 0 rfl 2 (.string ⟨#[]⟩))
          try simp only [size_drew, World.size_alloc] at T6
          refine hK.out _ _ (KbaseB.out _ [_] T6) (fun hH => ?_)
          clear hK K
          refine wpAnyH_done (by kernel_rfl) ?_ _
          as_aux_lemma =>
            go_wp2_with fail
            go_meet
            exact ⟨_, rfl, T6⟩
    case rest =>
      obtain ⟨q14, rfl, S⟩ := hcut
      rw [HbaseB.out] at S
      clear KM KbaseA HbaseA KbaseB HbaseB
      replace S : Sep w (boxR q14 (.cells #[.int .i64 4, .int .i64 vn, .string ⟨#[]⟩] 31) :: strsR (.slice (some ⟨g, 0, none⟩) 17 nc) (takeN 17) :: boxR x10 (.cells #[.int .i64 4, .int .i64 (L + 19), .string ⟨#[]⟩] 31) :: valsR (.slice oa l.length oc) l :: heapR h H2 :: boxR (b + 1) (.cells #[.int .i64 y.kind, .int .i64 y.n, .string y.s] 31) :: boxR b (.cells #[.int .i64 a, .slice ba svs.length bc, .slice ia I.length ic] 46) :: []) _ := S
      obtain ⟨baseA, hbaseA⟩ : ∃ base, base = boxR q14 (.cells #[.int .i64 4, .int .i64 vn, .string ⟨#[]⟩] 31) :: strsR (.slice (some ⟨g, 0, none⟩) 17 nc) (takeN 17) :: boxR x10 (.cells #[.int .i64 4, .int .i64 (L + 19), .string ⟨#[]⟩] 31) :: valsR (.slice oa l.length oc) l :: heapR h H2 :: boxR (b + 1) (.cells #[.int .i64 y.kind, .int .i64 y.n, .string y.s] 31) :: boxR b (.cells #[.int .i64 a, .slice ba svs.length bc, .slice ia I.length ic] 46) :: [] := ⟨_, rfl⟩
      have HbaseA := Lib.hid hbaseA
      have KbaseA : Hid (∀ W (Q : List Res), Sep w (Q ++ baseA) W → W.cell? ⟨q14, 0, none⟩ = some (.int .i64 4) ∧ W.cell? ⟨q14, 1, none⟩ = some (.int .i64 vn) ∧ W.cell? ⟨q14, 2, none⟩ = some (.string ⟨#[]⟩)) := Lib.hid fun W Q T => by
        rw [hbaseA] at T
        have i0 := T.box (b := q14) (o := .cells #[.int .i64 4, .int .i64 vn, .string ⟨#[]⟩] 31) (Q.length + 0) (by rw [List.getElem?_append_right (by omega), Nat.add_sub_cancel_left]; rfl)
        exact ⟨cellAt i0 0 rfl, cellAt i0 1 rfl, cellAt i0 2 rfl⟩
      have KY : Hid (∀ W (Q : List Res), Sep w (Q ++ baseA) W → Calls Tryd.prog 18 #[.string ⟨#[97, 114, 103, 115]⟩] W fun e W' => e = .returned (.agg #[.int .i64 3, .int .i64 0, .string ⟨#[97, 114, 103, 115]⟩]) ∧ Sep w (Q ++ baseA) W') := Lib.hid fun W Q T => by
        exact (ltext_ok W _).mono fun e W' ⟨e1, e2⟩ => ⟨e1, T.later e2⟩
      have KG : Hid (∀ W (Q : List Res), Sep w (Q ++ baseA) W → Calls Tryd.prog 17 #[.pointer (some ⟨h, 0, none⟩), .agg #[.int .i64 4, .int .i64 vn, .string ⟨#[]⟩], .agg #[.int .i64 3, .int .i64 0, .string ⟨#[97, 114, 103, 115]⟩]] W fun e W' => e = .returned (.tuple #[.agg #[.int .i64 4, .int .i64 tn, .string ⟨#[]⟩], .bool true]) ∧ Sep w (Q ++ baseA) W') := Lib.hid fun W Q T => by
        rw [HbaseA.out] at T ⊢
        exact kr_get T (Q.length + 4) (by rw [List.getElem?_append_right (by omega), Nat.add_sub_cancel_left]; rfl) (V.ref vn hov) argsK (V.ref tn hot) HF.out.get
      replace S : Sep w (baseA) wc := by rw [hbaseA]; exact S
      replace S := Lib.hid S
      clear hbaseA
      go_upto_region 9 with fail
      go_cut [15, 16] (fun s15 s16 wx => ∃ qx, s15 = .pointer (some ⟨qx, 0, none⟩) ∧ s16 = .bool true ∧ Sep w (boxR qx (.cells #[.int .i64 4, .int .i64 tn, .string ⟨#[]⟩] 31) :: baseA) wx)
      case first =>
        have T0 : Sep w ([] ++ baseA) _ := S.out.drew
        clear S
        as_aux_lemma =>
          refine wp_region_held_drew (S := fun W => W.cell? ⟨q14, 0, none⟩ = some (.int .i64 4) ∧ W.cell? ⟨q14, 1, none⟩ = some (.int .i64 vn) ∧ W.cell? ⟨q14, 2, none⟩ = some (.string ⟨#[]⟩)) (by kernel_rfl) (KbaseA.out _ [] T0) (fun hH => ?_)
          refine takeT 0 hH (hy := .inl ⟨by rfl, by (intro w hSw; try obtain ⟨u0, u1, u2⟩ := hSw); (go_simp; try rfl)⟩) (h := ?_)
          simp only [Act.put, List.setIfInBounds_toArray, List.set_cons_zero, List.set_cons_succ]
          refine takeT 1 hH (hy := .inl ⟨by rfl, by (intro w hSw; try obtain ⟨u0, u1, u2⟩ := hSw); (go_simp; try rfl)⟩) (h := ?_)
          simp only [Act.put, List.setIfInBounds_toArray, List.set_cons_zero, List.set_cons_succ]
          refine readyT [2, 7] ?_
          refine consT (fun K hK => ?_) (consT (fun K hK => ?_) AllReadyH.nil)
          · go_simp
            go_wp2_with (go_at_call 18; refine (KY.out _ [] T0).mono ?_; rintro e w1 ⟨rfl, T1⟩)
            clear hH
            refine hK.out _ _ (KbaseA.out _ [] T1) (fun hH => ?_)
            clear hK K
            refine readyT [3, 7] ?_
            refine consT (fun K hK => ?_) (consT (fun K hK => ?_) AllReadyH.nil)
            · go_simp
              go_wp2_with (go_at_call 17; refine (KG.out _ [] T1).mono ?_; rintro e w2 ⟨rfl, T2⟩)
              clear hH
              refine hK.out _ _ (KbaseA.out _ [] T2) (fun hH => ?_)
              clear hK K
              refine takeT 4 hH (hy := .inl ⟨by rfl, by (intro w hSw; try obtain ⟨u0, u1, u2⟩ := hSw); (go_simp; try rfl)⟩) (h := ?_)
              simp only [Act.put, List.setIfInBounds_toArray, List.set_cons_zero, List.set_cons_succ]
              refine takeT 5 hH (hy := .inl ⟨by rfl, by (intro w hSw; try obtain ⟨u0, u1, u2⟩ := hSw); (go_simp; try rfl)⟩) (h := ?_)
              simp only [Act.put, List.setIfInBounds_toArray, List.set_cons_zero, List.set_cons_succ]
              refine takeT 6 hH (hy := .inl ⟨by rfl, by (intro w hSw; try obtain ⟨u0, u1, u2⟩ := hSw); (go_simp; try rfl)⟩) (h := ?_)
              simp only [Act.put, List.setIfInBounds_toArray, List.set_cons_zero, List.set_cons_succ]
              refine readyT [7] ?_
              refine consT (fun K hK => ?_) AllReadyH.nil
              go_simp
              have T3 : Sep w ([boxR _ (.cells #[.int .i64 0, .int .i64 0, .string ⟨#[]⟩] 31)] ++ baseA) _ := Sep.alloc T2 (.cells #[.int .i64 0, .int .i64 0, .string ⟨#[]⟩] 31)
              try simp only [size_drew, World.size_alloc] at T3
              clear hH
              refine hK.out _ _ (KbaseA.out _ [_] T3) (fun hH => ?_)
              clear hK K
              refine readyT [8] ?_
              refine consT (fun K hK => ?_) AllReadyH.nil
              have hz := T3.box 0 rfl
              have z0 := cellAt hz 0 (v := .int .i64 0) rfl
              have z1 := cellAt hz 1 (v := .int .i64 0) rfl
              have z2 := cellAt hz 2 (v := .string ⟨#[]⟩) rfl
              have z3 := frozenAt hz 0
              have z4 := frozenAt hz 1
              have z5 := frozenAt hz 2
              try simp only [World.cell?_drew, World.frozen?_drew] at z0 z1 z2 z3 z4 z5
              go_simp
              clear hz z0 z1 z2 z3 z4 z5
              clear hH
              first | (have T4 : Sep w ([boxR _ (.cells #[.int .i64 4, .int .i64 tn, .string ⟨#[]⟩] 31)] ++ baseA) _ := (Sep.alloc T2 (.cells #[.int .i64 4, .int .i64 tn, .string ⟨#[]⟩] 31)); (try simp only [size_drew, World.size_alloc] at T4); refine hK.out _ _ (KbaseA.out _ [_] T4) (fun hH => ?_)) | (have T4 : Sep w ([boxR _ (.cells #[.int .i64 4, .int .i64 tn, .string ⟨#[]⟩] 31)] ++ baseA) _ := (Sep.setBox (cs := #[.int .i64 4, .int .i64 tn, .string ⟨#[]⟩]) (t := 31) (Sep.setBox (cs := #[.int .i64 4, .int .i64 0, .string ⟨#[]⟩]) (t := 31) (Sep.setBox (cs := #[.int .i64 0, .int .i64 0, .string ⟨#[]⟩]) (t := 31) T3 0 rfl 0 (.int .i64 4)) 0 rfl 1 (.int .i64 tn)) 0 rfl 2 (.string ⟨#[]⟩)); (try simp only [size_drew, World.size_alloc] at T4); refine hK.out _ _ (KbaseA.out _ [_] T4) (fun hH => ?_))
              clear hK K
              refine takeT 9 hH (hy := .inl ⟨by rfl, by (intro w hSw; try obtain ⟨u0, u1, u2⟩ := hSw); (go_simp; try rfl)⟩) (h := ?_)
              simp only [Act.put, List.setIfInBounds_toArray, List.set_cons_zero, List.set_cons_succ]
              refine wpAnyH_done (by kernel_rfl) ?_ _
              as_aux_lemma =>
                go_wp2_with fail
                go_meet
                exact ⟨_, rfl, rfl, T4⟩
            · go_simp
              have T5 : Sep w ([boxR _ (.cells #[.int .i64 0, .int .i64 0, .string ⟨#[]⟩] 31)] ++ baseA) _ := Sep.alloc T1 (.cells #[.int .i64 0, .int .i64 0, .string ⟨#[]⟩] 31)
              try simp only [size_drew, World.size_alloc] at T5
              clear hH
              refine hK.out _ _ (KbaseA.out _ [_] T5) (fun hH => ?_)
              clear hK K
              refine readyT [3] ?_
              refine consT (fun K hK => ?_) AllReadyH.nil
              go_simp
              go_wp2_with (go_at_call 17; refine (KG.out _ [_] T5).mono ?_; rintro e w6 ⟨rfl, T6⟩)
              clear hH
              refine hK.out _ _ (KbaseA.out _ [_] T6) (fun hH => ?_)
              clear hK K
              refine takeT 4 hH (hy := .inl ⟨by rfl, by (intro w hSw; try obtain ⟨u0, u1, u2⟩ := hSw); (go_simp; try rfl)⟩) (h := ?_)
              simp only [Act.put, List.setIfInBounds_toArray, List.set_cons_zero, List.set_cons_succ]
              refine takeT 5 hH (hy := .inl ⟨by rfl, by (intro w hSw; try obtain ⟨u0, u1, u2⟩ := hSw); (go_simp; try rfl)⟩) (h := ?_)
              simp only [Act.put, List.setIfInBounds_toArray, List.set_cons_zero, List.set_cons_succ]
              refine takeT 6 hH (hy := .inl ⟨by rfl, by (intro w hSw; try obtain ⟨u0, u1, u2⟩ := hSw); (go_simp; try rfl)⟩) (h := ?_)
              simp only [Act.put, List.setIfInBounds_toArray, List.set_cons_zero, List.set_cons_succ]
              refine readyT [8] ?_
              refine consT (fun K hK => ?_) AllReadyH.nil
              have hz := T6.box 0 rfl
              have z0 := cellAt hz 0 (v := .int .i64 0) rfl
              have z1 := cellAt hz 1 (v := .int .i64 0) rfl
              have z2 := cellAt hz 2 (v := .string ⟨#[]⟩) rfl
              have z3 := frozenAt hz 0
              have z4 := frozenAt hz 1
              have z5 := frozenAt hz 2
              try simp only [World.cell?_drew, World.frozen?_drew] at z0 z1 z2 z3 z4 z5
              go_simp
              clear hz z0 z1 z2 z3 z4 z5
              clear hH
              have T7 : Sep w ([boxR _ (.cells #[.int .i64 4, .int .i64 tn, .string ⟨#[]⟩] 31)] ++ baseA) _ := (Sep.setBox (cs := #[.int .i64 4, .int .i64 tn, .string ⟨#[]⟩]) (t := 31) (Sep.setBox (cs := #[.int .i64 4, .int .i64 0, .string ⟨#[]⟩]) (t := 31) (Sep.setBox (cs := #[.int .i64 0, .int .i64 0, .string ⟨#[]⟩]) (t := 31) T6 0 rfl 0 (.int .i64 4)) 0 rfl 1 (.int .i64 tn)) 0 rfl 2 (.string ⟨#[]⟩))
              try simp only [size_drew, World.size_alloc] at T7
              refine hK.out _ _ (KbaseA.out _ [_] T7) (fun hH => ?_)
              clear hK K
              refine takeT 9 hH (hy := .inl ⟨by rfl, by (intro w hSw; try obtain ⟨u0, u1, u2⟩ := hSw); (go_simp; try rfl)⟩) (h := ?_)
              simp only [Act.put, List.setIfInBounds_toArray, List.set_cons_zero, List.set_cons_succ]
              refine wpAnyH_done (by kernel_rfl) ?_ _
              as_aux_lemma =>
                go_wp2_with fail
                go_meet
                exact ⟨_, rfl, rfl, T7⟩
          · go_simp
            have T8 : Sep w ([boxR _ (.cells #[.int .i64 0, .int .i64 0, .string ⟨#[]⟩] 31)] ++ baseA) _ := Sep.alloc T0 (.cells #[.int .i64 0, .int .i64 0, .string ⟨#[]⟩] 31)
            try simp only [size_drew, World.size_alloc] at T8
            clear hH
            refine hK.out _ _ (KbaseA.out _ [_] T8) (fun hH => ?_)
            clear hK K
            refine readyT [2] ?_
            refine consT (fun K hK => ?_) AllReadyH.nil
            go_simp
            go_wp2_with (go_at_call 18; refine (KY.out _ [_] T8).mono ?_; rintro e w9 ⟨rfl, T9⟩)
            clear hH
            refine hK.out _ _ (KbaseA.out _ [_] T9) (fun hH => ?_)
            clear hK K
            refine readyT [3] ?_
            refine consT (fun K hK => ?_) AllReadyH.nil
            go_simp
            go_wp2_with (go_at_call 17; refine (KG.out _ [_] T9).mono ?_; rintro e w10 ⟨rfl, T10⟩)
            clear hH
            refine hK.out _ _ (KbaseA.out _ [_] T10) (fun hH => ?_)
            clear hK K
            refine takeT 4 hH (hy := .inl ⟨by rfl, by (intro w hSw; try obtain ⟨u0, u1, u2⟩ := hSw); (go_simp; try rfl)⟩) (h := ?_)
            simp only [Act.put, List.setIfInBounds_toArray, List.set_cons_zero, List.set_cons_succ]
            refine takeT 5 hH (hy := .inl ⟨by rfl, by (intro w hSw; try obtain ⟨u0, u1, u2⟩ := hSw); (go_simp; try rfl)⟩) (h := ?_)
            simp only [Act.put, List.setIfInBounds_toArray, List.set_cons_zero, List.set_cons_succ]
            refine takeT 6 hH (hy := .inl ⟨by rfl, by (intro w hSw; try obtain ⟨u0, u1, u2⟩ := hSw); (go_simp; try rfl)⟩) (h := ?_)
            simp only [Act.put, List.setIfInBounds_toArray, List.set_cons_zero, List.set_cons_succ]
            refine readyT [8] ?_
            refine consT (fun K hK => ?_) AllReadyH.nil
            have hz := T10.box 0 rfl
            have z0 := cellAt hz 0 (v := .int .i64 0) rfl
            have z1 := cellAt hz 1 (v := .int .i64 0) rfl
            have z2 := cellAt hz 2 (v := .string ⟨#[]⟩) rfl
            have z3 := frozenAt hz 0
            have z4 := frozenAt hz 1
            have z5 := frozenAt hz 2
            try simp only [World.cell?_drew, World.frozen?_drew] at z0 z1 z2 z3 z4 z5
            go_simp
            clear hz z0 z1 z2 z3 z4 z5
            clear hH
            have T11 : Sep w ([boxR _ (.cells #[.int .i64 4, .int .i64 tn, .string ⟨#[]⟩] 31)] ++ baseA) _ := (Sep.setBox (cs := #[.int .i64 4, .int .i64 tn, .string ⟨#[]⟩]) (t := 31) (Sep.setBox (cs := #[.int .i64 4, .int .i64 0, .string ⟨#[]⟩]) (t := 31) (Sep.setBox (cs := #[.int .i64 0, .int .i64 0, .string ⟨#[]⟩]) (t := 31) T10 0 rfl 0 (.int .i64 4)) 0 rfl 1 (.int .i64 tn)) 0 rfl 2 (.string ⟨#[]⟩))
            try simp only [size_drew, World.size_alloc] at T11
            refine hK.out _ _ (KbaseA.out _ [_] T11) (fun hH => ?_)
            clear hK K
            refine takeT 9 hH (hy := .inl ⟨by rfl, by (intro w hSw; try obtain ⟨u0, u1, u2⟩ := hSw); (go_simp; try rfl)⟩) (h := ?_)
            simp only [Act.put, List.setIfInBounds_toArray, List.set_cons_zero, List.set_cons_succ]
            refine wpAnyH_done (by kernel_rfl) ?_ _
            as_aux_lemma =>
              go_wp2_with fail
              go_meet
              exact ⟨_, rfl, rfl, T11⟩
      case rest =>
        obtain ⟨q15, rfl, rfl, S⟩ := hcut
        rw [HbaseA.out] at S
        clear KY KG KbaseA HbaseA
        replace S : Sep w (boxR q15 (.cells #[.int .i64 4, .int .i64 tn, .string ⟨#[]⟩] 31) :: boxR q14 (.cells #[.int .i64 4, .int .i64 vn, .string ⟨#[]⟩] 31) :: strsR (.slice (some ⟨g, 0, none⟩) 17 nc) (takeN 17) :: boxR x10 (.cells #[.int .i64 4, .int .i64 (L + 19), .string ⟨#[]⟩] 31) :: valsR (.slice oa l.length oc) l :: heapR h H2 :: boxR (b + 1) (.cells #[.int .i64 y.kind, .int .i64 y.n, .string y.s] 31) :: boxR b (.cells #[.int .i64 a, .slice ba svs.length bc, .slice ia I.length ic] 46) :: []) _ := S
        have S2 := S.madeRow V.cells 3 31
        obtain ⟨x17, hx17⟩ : ∃ gx_, (wc.heap.size) = gx_ := ⟨_, rfl⟩
        rw [hx17] at S2
        replace S : Sep w (valsR (.slice (some ⟨x17, 0, none⟩) 0 0) [] :: boxR q15 (.cells #[.int .i64 4, .int .i64 tn, .string ⟨#[]⟩] 31) :: boxR q14 (.cells #[.int .i64 4, .int .i64 vn, .string ⟨#[]⟩] 31) :: strsR (.slice (some ⟨g, 0, none⟩) 17 nc) (takeN 17) :: boxR x10 (.cells #[.int .i64 4, .int .i64 (L + 19), .string ⟨#[]⟩] 31) :: valsR (.slice oa l.length oc) l :: heapR h H2 :: boxR (b + 1) (.cells #[.int .i64 y.kind, .int .i64 y.n, .string y.s] 31) :: boxR b (.cells #[.int .i64 a, .slice ba svs.length bc, .slice ia I.length ic] 46) :: []) (wc.alloc (.cells #[] 31)) := S2
        clear S2
        cases has with
        | false =>
          replace HF : Hid (ArgsF H2 (V.ref vn hov) (V.ref tn hot) (V.ref cn hoc) (V.ref (L + 19) hb19) k [] m) := HF
          have d0 := cellAt (S.box (b := q14) 2 rfl) 0 (v := .int .i64 4) rfl
          have d1 := cellAt (S.box (b := q14) 2 rfl) 1 (v := .int .i64 vn) rfl
          have d2 := cellAt (S.box (b := q14) 2 rfl) 2 (v := .string ⟨#[]⟩) rfl
          have M := Lib.hid (kx_of S 6 rfl vn cn hov hoc HF.out.of)
          clear S
          go_wp2_with fail
          try simp only [hx17]
          refine M.out.mono ?_
          rintro e w5 ⟨rfl, S⟩
          clear M d0 d1 d2 hx17
          replace S : Sep w (valsR (.slice (some ⟨x17, 0, none⟩) 0 0) [] :: boxR q15 (.cells #[.int .i64 4, .int .i64 tn, .string ⟨#[]⟩] 31) :: boxR q14 (.cells #[.int .i64 4, .int .i64 vn, .string ⟨#[]⟩] 31) :: strsR (.slice (some ⟨g, 0, none⟩) 17 nc) (takeN 17) :: boxR x10 (.cells #[.int .i64 4, .int .i64 (L + 19), .string ⟨#[]⟩] 31) :: valsR (.slice oa l.length oc) l :: heapR h H2 :: boxR (b + 1) (.cells #[.int .i64 y.kind, .int .i64 y.n, .string y.s] 31) :: boxR b (.cells #[.int .i64 a, .slice ba svs.length bc, .slice ia I.length ic] 46) :: []) _ := S
          obtain ⟨x18, hx18⟩ : ∃ gx_, (w5.heap.size) = gx_ := ⟨_, rfl⟩
          replace S := (S.alloc (.cells #[.int .i64 4, .int .i64 cn, .string ⟨#[]⟩] 31))
          simp only [World.size_alloc, hx18] at S
          replace S : Sep w (boxR x18 (.cells #[.int .i64 4, .int .i64 cn, .string ⟨#[]⟩] 31) :: valsR (.slice (some ⟨x17, 0, none⟩) 0 0) [] :: boxR q15 (.cells #[.int .i64 4, .int .i64 tn, .string ⟨#[]⟩] 31) :: boxR q14 (.cells #[.int .i64 4, .int .i64 vn, .string ⟨#[]⟩] 31) :: strsR (.slice (some ⟨g, 0, none⟩) 17 nc) (takeN 17) :: boxR x10 (.cells #[.int .i64 4, .int .i64 (L + 19), .string ⟨#[]⟩] 31) :: valsR (.slice oa l.length oc) l :: heapR h H2 :: boxR (b + 1) (.cells #[.int .i64 y.kind, .int .i64 y.n, .string y.s] 31) :: boxR b (.cells #[.int .i64 a, .slice ba svs.length bc, .slice ia I.length ic] 46) :: []) _ := S
          obtain ⟨baseA, hbaseA⟩ : ∃ base, base = boxR x18 (.cells #[.int .i64 4, .int .i64 cn, .string ⟨#[]⟩] 31) :: valsR (.slice (some ⟨x17, 0, none⟩) 0 0) [] :: boxR q15 (.cells #[.int .i64 4, .int .i64 tn, .string ⟨#[]⟩] 31) :: boxR q14 (.cells #[.int .i64 4, .int .i64 vn, .string ⟨#[]⟩] 31) :: strsR (.slice (some ⟨g, 0, none⟩) 17 nc) (takeN 17) :: boxR x10 (.cells #[.int .i64 4, .int .i64 (L + 19), .string ⟨#[]⟩] 31) :: valsR (.slice oa l.length oc) l :: heapR h H2 :: boxR (b + 1) (.cells #[.int .i64 y.kind, .int .i64 y.n, .string y.s] 31) :: boxR b (.cells #[.int .i64 a, .slice ba svs.length bc, .slice ia I.length ic] 46) :: [] := ⟨_, rfl⟩
          have HbaseA := Lib.hid hbaseA
          have KbaseA : Hid (∀ W (Q : List Res), Sep w (Q ++ baseA) W → W.cell? ⟨x10, 0, none⟩ = some (.int .i64 4) ∧ W.cell? ⟨x10, 1, none⟩ = some (.int .i64 (L + 19)) ∧ W.cell? ⟨x10, 2, none⟩ = some (.string ⟨#[]⟩) ∧ W.cell? ⟨q14, 0, none⟩ = some (.int .i64 4) ∧ W.cell? ⟨q14, 1, none⟩ = some (.int .i64 vn) ∧ W.cell? ⟨q14, 2, none⟩ = some (.string ⟨#[]⟩) ∧ W.cell? ⟨q15, 0, none⟩ = some (.int .i64 4) ∧ W.cell? ⟨q15, 1, none⟩ = some (.int .i64 tn) ∧ W.cell? ⟨q15, 2, none⟩ = some (.string ⟨#[]⟩) ∧ W.cell? ⟨x18, 0, none⟩ = some (.int .i64 4) ∧ W.cell? ⟨x18, 1, none⟩ = some (.int .i64 cn) ∧ W.cell? ⟨x18, 2, none⟩ = some (.string ⟨#[]⟩) ∧ W.cell? ⟨g, k, none⟩ = some (.string (nameF k))) := Lib.hid fun W Q T => by
            rw [hbaseA] at T
            have i0 := T.box (b := x10) (o := .cells #[.int .i64 4, .int .i64 (L + 19), .string ⟨#[]⟩] 31) (Q.length + 5) (by rw [List.getElem?_append_right (by omega), Nat.add_sub_cancel_left]; rfl)
            have i1 := T.box (b := q14) (o := .cells #[.int .i64 4, .int .i64 vn, .string ⟨#[]⟩] 31) (Q.length + 3) (by rw [List.getElem?_append_right (by omega), Nat.add_sub_cancel_left]; rfl)
            have i2 := T.box (b := q15) (o := .cells #[.int .i64 4, .int .i64 tn, .string ⟨#[]⟩] 31) (Q.length + 2) (by rw [List.getElem?_append_right (by omega), Nat.add_sub_cancel_left]; rfl)
            have i3 := T.box (b := x18) (o := .cells #[.int .i64 4, .int .i64 cn, .string ⟨#[]⟩] 31) (Q.length + 0) (by rw [List.getElem?_append_right (by omega), Nat.add_sub_cancel_left]; rfl)
            exact ⟨cellAt i0 0 rfl, cellAt i0 1 rfl, cellAt i0 2 rfl, cellAt i1 0 rfl, cellAt i1 1 rfl, cellAt i1 2 rfl, cellAt i2 0 rfl, cellAt i2 1 rfl, cellAt i2 2 rfl, cellAt i3 0 rfl, cellAt i3 1 rfl, cellAt i3 2 rfl, strs_cell T (Q.length + 4) (by rw [List.getElem?_append_right (by omega), Nat.add_sub_cancel_left]; rfl) HK.out⟩
          have KR : Hid (∀ W (Q : List Res), Sep w (Q ++ baseA) W → Calls Tryd.prog 8 #[] W fun e W' => e = .returned (.bool true) ∧ Sep w (Q ++ baseA) W') := Lib.hid fun W Q T => by
            exact raised_ok T HGL.out
          have KK : Hid (∀ W (Q : List Res), Sep w (Q ++ baseA) W → Calls Tryd.prog 26 #[.pointer (some ⟨h, 0, none⟩), .agg #[.int .i64 4, .int .i64 tn, .string ⟨#[]⟩]] W fun e W' => e = .returned (.int .i64 2) ∧ Sep w (Q ++ baseA) W') := Lib.hid fun W Q T => by
            rw [HbaseA.out] at T ⊢
            exact kr_kind T (Q.length + 7) (by rw [List.getElem?_append_right (by omega), Nat.add_sub_cancel_left]; rfl) (V.ref tn hot) 2 HF.out.kindA
          have KI : Hid (∀ W (Q : List Res), Sep w (Q ++ baseA) W → Calls Tryd.prog 33 #[.pointer (some ⟨h, 0, none⟩), .agg #[.int .i64 4, .int .i64 tn, .string ⟨#[]⟩]] W fun e W' => ∃ ta tc, e = .returned (.slice ta 0 tc) ∧ Sep w ((valsR (.slice ta 0 tc) [] :: Q) ++ baseA) W') := Lib.hid fun W Q T => by
            rw [HbaseA.out] at T ⊢
            exact kr_items T (Q.length + 7) (by rw [List.getElem?_append_right (by omega), Nat.add_sub_cancel_left]; rfl) HF.out.fit.G (by omega) (V.ref tn hot) [] HF.out.itemsA
          have KS : Hid (∀ W (Q : List Res) ta tc, Sep w ((valsR (.slice ta 0 tc) [] :: Q) ++ baseA) W → Calls Tryd.prog 32 #[.slice ta 0 tc, .slice (some ⟨x17, 0, none⟩) 0 0] W fun e W' => e = .returned (.bool true) ∧ Sep w ((valsR (.slice ta 0 tc) [] :: Q) ++ baseA) W') := Lib.hid fun W Q ta tc T => by
            rw [HbaseA.out] at T ⊢
            have hw := T.row (v := .slice (some ⟨x17, 0, none⟩) 0 0) (l := []) ((valsR (.slice ta 0 tc) [] :: Q).length + 1) (by rw [List.getElem?_append_right (by omega), Nat.add_sub_cancel_left]; rfl)
            exact (same_vals _ _ _ [] [] ((T.row 0 rfl).sees') hw.sees').mono fun e W1 hh => ⟨by rw [hh.1]; simp, by obtain ⟨q, hq⟩ := hh.2; rw [hq]; exact T.drewN q⟩
          have KN : Hid (∀ W (Q : List Res), Sep w (Q ++ baseA) W → Calls Tryd.prog 34 #[.pointer (some ⟨h, 0, none⟩), .agg #[.int .i64 4, .int .i64 cn, .string ⟨#[]⟩]] W fun e W' => e = .returned (.string (nameF k)) ∧ Sep w (Q ++ baseA) W') := Lib.hid fun W Q T => by
            rw [HbaseA.out] at T ⊢
            exact kr_name T (Q.length + 7) (by rw [List.getElem?_append_right (by omega), Nat.add_sub_cancel_left]; rfl) (V.ref cn hoc) (nameF k) HF.out.nameC
          have KNV : Hid (∀ W (Q : List Res), Sep w (Q ++ baseA) W → Calls Tryd.prog 34 #[.pointer (some ⟨h, 0, none⟩), .agg #[.int .i64 4, .int .i64 vn, .string ⟨#[]⟩]] W fun e W' => e = .returned (.string (nameF k)) ∧ Sep w (Q ++ baseA) W') := Lib.hid fun W Q T => by
            rw [HbaseA.out] at T ⊢
            exact kr_name T (Q.length + 7) (by rw [List.getElem?_append_right (by omega), Nat.add_sub_cancel_left]; rfl) (V.ref vn hov) (nameF k) HF.out.nameV
          have KX : Hid (∀ W (Q : List Res), Sep w (Q ++ baseA) W → Calls Tryd.prog 29 #[.pointer (some ⟨h, 0, none⟩), .agg #[.int .i64 4, .int .i64 (L + 19), .string ⟨#[]⟩], .agg #[.int .i64 4, .int .i64 vn, .string ⟨#[]⟩]] W fun e W' => e = .returned (.bool true) ∧ Sep w (Q ++ baseA) W') := Lib.hid fun W Q T => by
            rw [HbaseA.out] at T ⊢
            exact kx_is T (Q.length + 7) (by rw [List.getElem?_append_right (by omega), Nat.add_sub_cancel_left]; rfl) HF.out.fit.G (by omega) (V.ref (L + 19) hb19) (V.ref vn hov) true HF.out.is
          have KC : Hid (∀ W (Q : List Res), Sep w (Q ++ baseA) W → Calls Tryd.prog 28 #[.pointer (some ⟨h, 0, none⟩), .agg #[.int .i64 4, .int .i64 (L + 19), .string ⟨#[]⟩], .agg #[.int .i64 4, .int .i64 vn, .string ⟨#[]⟩]] W fun e W' => e = .returned (.bool false) ∧ Sep w (Q ++ baseA) W') := Lib.hid fun W Q T => by
            rw [HbaseA.out] at T ⊢
            exact kx_cls T (Q.length + 7) (by rw [List.getElem?_append_right (by omega), Nat.add_sub_cancel_left]; rfl) HF.out.fit.G (by omega) (V.ref (L + 19) hb19) (V.ref vn hov) false HF.out.cls
          have KL : Hid (∀ W (Q : List Res), Sep w (Q ++ baseA) W → Calls Tryd.prog 30 #[.pointer (some ⟨h, 0, none⟩), .int .i64 0] W fun e W' => e = .returned (.int .i64 (m + 2)) ∧ Sep w (Q ++ baseA) W') := Lib.hid fun W Q T => by
            rw [HbaseA.out] at T ⊢
            exact kx_live T (Q.length + 7) (by rw [List.getElem?_append_right (by omega), Nat.add_sub_cancel_left]; rfl) HF.out.fit.G (by omega) (m + 2) HF.out.live
          have KZ : Hid (∀ W (Q : List Res), Sep w (Q ++ baseA) W → Calls Tryd.prog 35 #[.pointer (some ⟨h, 0, none⟩), .agg #[.int .i64 4, .int .i64 vn, .string ⟨#[]⟩]] W fun e W' => e = .returned (.int .i64 1) ∧ Sep w (Q ++ baseA) W') := Lib.hid fun W Q T => by
            rw [HbaseA.out] at T ⊢
            exact kx_size T (Q.length + 7) (by rw [List.getElem?_append_right (by omega), Nat.add_sub_cancel_left]; rfl) (V.ref vn hov) 1 HF.out.size
          have hw : IntKind.wrap .i64 (m + 2) = m + 2 := IntWalk.i64_in _ (by omega)
          replace S : Sep w (baseA) (w5.alloc (.cells #[.int .i64 4, .int .i64 cn, .string ⟨#[]⟩] 31)) := by rw [hbaseA]; exact S
          replace S := Lib.hid S
          clear hbaseA
          go_upto_region 14 with fail
          try simp only [hx18]
          obtain ⟨Wd14, hW⟩ : ∃ gx_, ((w5.alloc (.cells #[.int .i64 4, .int .i64 cn, .string ⟨#[]⟩] 31))) = gx_ := ⟨_, rfl⟩
          rw [hW] at S ⊢
          clear hW hx18
          go_cut [8] (fun s8 wx => s8 = .bool true ∧ Below w.heap.size w wx)
          case first =>
            have T0 : Sep w ([] ++ baseA) _ := S.out.drew
            clear S
            as_aux_lemma =>
              refine wp_region_held_drew (S := fun W => W.cell? ⟨x10, 0, none⟩ = some (.int .i64 4) ∧ W.cell? ⟨x10, 1, none⟩ = some (.int .i64 (L + 19)) ∧ W.cell? ⟨x10, 2, none⟩ = some (.string ⟨#[]⟩) ∧ W.cell? ⟨q14, 0, none⟩ = some (.int .i64 4) ∧ W.cell? ⟨q14, 1, none⟩ = some (.int .i64 vn) ∧ W.cell? ⟨q14, 2, none⟩ = some (.string ⟨#[]⟩) ∧ W.cell? ⟨q15, 0, none⟩ = some (.int .i64 4) ∧ W.cell? ⟨q15, 1, none⟩ = some (.int .i64 tn) ∧ W.cell? ⟨q15, 2, none⟩ = some (.string ⟨#[]⟩) ∧ W.cell? ⟨x18, 0, none⟩ = some (.int .i64 4) ∧ W.cell? ⟨x18, 1, none⟩ = some (.int .i64 cn) ∧ W.cell? ⟨x18, 2, none⟩ = some (.string ⟨#[]⟩) ∧ W.cell? ⟨g, k, none⟩ = some (.string (nameF k))) (by kernel_rfl) (KbaseA.out _ [] T0) (fun hH => ?_)
              refine readyT [0] ?_
              refine consT (fun K hK => ?_) AllReadyH.nil
              go_simp
              go_wp2_with (go_at_call 8; refine (KR.out _ [] T0).mono ?_; rintro e w1 ⟨rfl, T1⟩)
              clear hH
              refine hK.out _ _ (KbaseA.out _ [] T1) (fun hH => ?_)
              clear hK K
              refine takeT 1 hH (hy := .inl ⟨by rfl, by (intro w hSw; try obtain ⟨u0, u1, u2, u3, u4, u5, u6, u7, u8, u9, u10, u11, v0⟩ := hSw); (go_simp; try rfl)⟩) (h := ?_)
              simp only [Act.put, List.setIfInBounds_toArray, List.set_cons_zero, List.set_cons_succ]
              refine takeT 2 hH (hy := .inl ⟨by rfl, by (intro w hSw; try obtain ⟨u0, u1, u2, u3, u4, u5, u6, u7, u8, u9, u10, u11, v0⟩ := hSw); (go_simp; try rfl)⟩) (h := ?_)
              simp only [Act.put, List.setIfInBounds_toArray, List.set_cons_zero, List.set_cons_succ]
              refine takeT 3 hH (hy := .inl ⟨by rfl, by (intro w hSw; try obtain ⟨u0, u1, u2, u3, u4, u5, u6, u7, u8, u9, u10, u11, v0⟩ := hSw); (go_simp; try rfl)⟩) (h := ?_)
              simp only [Act.put, List.setIfInBounds_toArray, List.set_cons_zero, List.set_cons_succ]
              refine takeT 4 hH (hy := .inl ⟨by rfl, by (intro w hSw; try obtain ⟨u0, u1, u2, u3, u4, u5, u6, u7, u8, u9, u10, u11, v0⟩ := hSw); (go_simp; try rfl)⟩) (h := ?_)
              simp only [Act.put, List.setIfInBounds_toArray, List.set_cons_zero, List.set_cons_succ]
              refine takeT 5 hH (hy := .inl ⟨by rfl, by (intro w hSw; try obtain ⟨u0, u1, u2, u3, u4, u5, u6, u7, u8, u9, u10, u11, v0⟩ := hSw); (go_simp; try rfl)⟩) (h := ?_)
              simp only [Act.put, List.setIfInBounds_toArray, List.set_cons_zero, List.set_cons_succ]
              refine takeT 6 hH (hy := .inl ⟨by rfl, by (intro w hSw; try obtain ⟨u0, u1, u2, u3, u4, u5, u6, u7, u8, u9, u10, u11, v0⟩ := hSw); (go_simp; try rfl)⟩) (h := ?_)
              simp only [Act.put, List.setIfInBounds_toArray, List.set_cons_zero, List.set_cons_succ]
              refine takeT 7 hH (hy := .inl ⟨by rfl, by (intro w hSw; try obtain ⟨u0, u1, u2, u3, u4, u5, u6, u7, u8, u9, u10, u11, v0⟩ := hSw); (go_simp; try rfl)⟩) (h := ?_)
              simp only [Act.put, List.setIfInBounds_toArray, List.set_cons_zero, List.set_cons_succ]
              refine takeT 8 hH (hy := .inl ⟨by rfl, by (intro w hSw; try obtain ⟨u0, u1, u2, u3, u4, u5, u6, u7, u8, u9, u10, u11, v0⟩ := hSw); (go_simp; try rfl)⟩) (h := ?_)
              simp only [Act.put, List.setIfInBounds_toArray, List.set_cons_zero, List.set_cons_succ]
              refine takeT 9 hH (hy := .inl ⟨by rfl, by (intro w hSw; try obtain ⟨u0, u1, u2, u3, u4, u5, u6, u7, u8, u9, u10, u11, v0⟩ := hSw); (go_simp; try rfl)⟩) (h := ?_)
              simp only [Act.put, List.setIfInBounds_toArray, List.set_cons_zero, List.set_cons_succ]
              refine readyT [10] ?_
              refine consT (fun K hK => ?_) AllReadyH.nil
              go_simp
              go_wp2_with (go_at_call 26; refine (KK.out _ [] T1).mono ?_; rintro e w2 ⟨rfl, T2⟩)
              clear hH
              refine hK.out _ _ (KbaseA.out _ [] T2) (fun hH => ?_)
              clear hK K
              refine takeT 11 hH (hy := .inl ⟨by rfl, by (intro w hSw; try obtain ⟨u0, u1, u2, u3, u4, u5, u6, u7, u8, u9, u10, u11, v0⟩ := hSw); (go_simp; try rfl)⟩) (h := ?_)
              simp only [Act.put, List.setIfInBounds_toArray, List.set_cons_zero, List.set_cons_succ]
              refine takeT 12 hH (hy := .inl ⟨by rfl, by (intro w hSw; try obtain ⟨u0, u1, u2, u3, u4, u5, u6, u7, u8, u9, u10, u11, v0⟩ := hSw); (go_simp; try rfl)⟩) (h := ?_)
              simp only [Act.put, List.setIfInBounds_toArray, List.set_cons_zero, List.set_cons_succ]
              refine takeT 13 hH (hy := .inl ⟨by rfl, by (intro w hSw; try obtain ⟨u0, u1, u2, u3, u4, u5, u6, u7, u8, u9, u10, u11, v0⟩ := hSw); (go_simp; try rfl)⟩) (h := ?_)
              simp only [Act.put, List.setIfInBounds_toArray, List.set_cons_zero, List.set_cons_succ]
              refine takeT 14 hH (hy := .inl ⟨by rfl, by (intro w hSw; try obtain ⟨u0, u1, u2, u3, u4, u5, u6, u7, u8, u9, u10, u11, v0⟩ := hSw); (go_simp; try rfl)⟩) (h := ?_)
              simp only [Act.put, List.setIfInBounds_toArray, List.set_cons_zero, List.set_cons_succ]
              refine takeT 15 hH (hy := .inl ⟨by rfl, by (intro w hSw; try obtain ⟨u0, u1, u2, u3, u4, u5, u6, u7, u8, u9, u10, u11, v0⟩ := hSw); (go_simp; try rfl)⟩) (h := ?_)
              simp only [Act.put, List.setIfInBounds_toArray, List.set_cons_zero, List.set_cons_succ]
              refine takeT 17 hH (hy := .inl ⟨by rfl, by (intro w hSw; try obtain ⟨u0, u1, u2, u3, u4, u5, u6, u7, u8, u9, u10, u11, v0⟩ := hSw); (go_simp; try rfl)⟩) (h := ?_)
              simp only [Act.put, List.setIfInBounds_toArray, List.set_cons_zero, List.set_cons_succ]
              refine readyT [16] ?_
              refine consT (fun K hK => ?_) AllReadyH.nil
              go_simp
              go_wp2_with (go_at_call 33; refine (KI.out _ [] T2).mono ?_; rintro e w3 ⟨ta, tc, rfl, T3⟩)
              clear hH
              refine hK.out _ _ (KbaseA.out _ [_] T3) (fun hH => ?_)
              clear hK K
              refine readyT [18] ?_
              refine consT (fun K hK => ?_) AllReadyH.nil
              go_simp
              go_wp2_with (go_at_call 32; refine (KS.out _ [] _ _ T3).mono ?_; rintro e w4 ⟨rfl, T4⟩)
              clear hH
              refine hK.out _ _ (KbaseA.out _ [_] T4) (fun hH => ?_)
              clear hK K
              refine takeT 19 hH (hy := .inl ⟨by rfl, by (intro w hSw; try obtain ⟨u0, u1, u2, u3, u4, u5, u6, u7, u8, u9, u10, u11, v0⟩ := hSw); (go_simp; try rfl)⟩) (h := ?_)
              simp only [Act.put, List.setIfInBounds_toArray, List.set_cons_zero, List.set_cons_succ]
              refine takeT 20 hH (hy := .inl ⟨by rfl, by (intro w hSw; try obtain ⟨u0, u1, u2, u3, u4, u5, u6, u7, u8, u9, u10, u11, v0⟩ := hSw); (go_simp; try rfl)⟩) (h := ?_)
              simp only [Act.put, List.setIfInBounds_toArray, List.set_cons_zero, List.set_cons_succ]
              refine takeT 21 hH (hy := .inl ⟨by rfl, by (intro w hSw; try obtain ⟨u0, u1, u2, u3, u4, u5, u6, u7, u8, u9, u10, u11, v0⟩ := hSw); (go_simp; try rfl)⟩) (h := ?_)
              simp only [Act.put, List.setIfInBounds_toArray, List.set_cons_zero, List.set_cons_succ]
              refine takeT 22 hH (hy := .inl ⟨by rfl, by (intro w hSw; try obtain ⟨u0, u1, u2, u3, u4, u5, u6, u7, u8, u9, u10, u11, v0⟩ := hSw); (go_simp; try rfl)⟩) (h := ?_)
              simp only [Act.put, List.setIfInBounds_toArray, List.set_cons_zero, List.set_cons_succ]
              refine takeT 24 hH (hy := .inl ⟨by rfl, by (intro w hSw; try obtain ⟨u0, u1, u2, u3, u4, u5, u6, u7, u8, u9, u10, u11, v0⟩ := hSw); (go_simp; try rfl)⟩) (h := ?_)
              simp only [Act.put, List.setIfInBounds_toArray, List.set_cons_zero, List.set_cons_succ]
              refine takeT 25 hH (hy := .inl ⟨by rfl, by (intro w hSw; try obtain ⟨u0, u1, u2, u3, u4, u5, u6, u7, u8, u9, u10, u11, v0⟩ := hSw); (go_simp; try rfl)⟩) (h := ?_)
              simp only [Act.put, List.setIfInBounds_toArray, List.set_cons_zero, List.set_cons_succ]
              refine takeT 26 hH (hy := .inl ⟨by rfl, by (intro w hSw; try obtain ⟨u0, u1, u2, u3, u4, u5, u6, u7, u8, u9, u10, u11, v0⟩ := hSw); (go_simp; try rfl)⟩) (h := ?_)
              simp only [Act.put, List.setIfInBounds_toArray, List.set_cons_zero, List.set_cons_succ]
              refine takeT 27 hH (hy := .inl ⟨by rfl, by (intro w hSw; try obtain ⟨u0, u1, u2, u3, u4, u5, u6, u7, u8, u9, u10, u11, v0⟩ := hSw); (go_simp; try rfl)⟩) (h := ?_)
              simp only [Act.put, List.setIfInBounds_toArray, List.set_cons_zero, List.set_cons_succ]
              refine readyT [23] ?_
              refine consT (fun K hK => ?_) AllReadyH.nil
              go_simp
              go_wp2_with (go_at_call 34; refine (KN.out _ [_] T4).mono ?_; rintro e w5 ⟨rfl, T5⟩)
              clear hH
              refine hK.out _ _ (KbaseA.out _ [_] T5) (fun hH => ?_)
              clear hK K
              refine takeT 28 hH (hy := .inl ⟨by rfl, by (intro w hSw; try obtain ⟨u0, u1, u2, u3, u4, u5, u6, u7, u8, u9, u10, u11, v0⟩ := hSw); (go_simp; try rfl)⟩) (h := ?_)
              simp only [Act.put, List.setIfInBounds_toArray, List.set_cons_zero, List.set_cons_succ]
              refine takeT 29 hH (hy := .inl ⟨by rfl, by (intro w hSw; try obtain ⟨u0, u1, u2, u3, u4, u5, u6, u7, u8, u9, u10, u11, v0⟩ := hSw); (go_simp; try rfl)⟩) (h := ?_)
              simp only [Act.put, List.setIfInBounds_toArray, List.set_cons_zero, List.set_cons_succ]
              refine takeT 30 hH (hy := .inl ⟨by rfl, by (intro w hSw; try obtain ⟨u0, u1, u2, u3, u4, u5, u6, u7, u8, u9, u10, u11, v0⟩ := hSw); (go_simp; try rfl)⟩) (h := ?_)
              simp only [Act.put, List.setIfInBounds_toArray, List.set_cons_zero, List.set_cons_succ]
              refine takeT 31 hH (hy := .inl ⟨by rfl, by (intro w hSw; try obtain ⟨u0, u1, u2, u3, u4, u5, u6, u7, u8, u9, u10, u11, v0⟩ := hSw); (go_simp; try rfl)⟩) (h := ?_)
              simp only [Act.put, List.setIfInBounds_toArray, List.set_cons_zero, List.set_cons_succ]
              refine takeT 32 hH (hy := .inl ⟨by rfl, by (intro w hSw; try obtain ⟨u0, u1, u2, u3, u4, u5, u6, u7, u8, u9, u10, u11, v0⟩ := hSw); (go_simp; try rfl)⟩) (h := ?_)
              simp only [Act.put, List.setIfInBounds_toArray, List.set_cons_zero, List.set_cons_succ]
              refine takeT 34 hH (hy := .inl ⟨by rfl, by (intro w hSw; try obtain ⟨u0, u1, u2, u3, u4, u5, u6, u7, u8, u9, u10, u11, v0⟩ := hSw); (go_simp; try rfl)⟩) (h := ?_)
              simp only [Act.put, List.setIfInBounds_toArray, List.set_cons_zero, List.set_cons_succ]
              refine takeT 35 hH (hy := .inl ⟨by rfl, by (intro w hSw; try obtain ⟨u0, u1, u2, u3, u4, u5, u6, u7, u8, u9, u10, u11, v0⟩ := hSw); (go_simp; try rfl)⟩) (h := ?_)
              simp only [Act.put, List.setIfInBounds_toArray, List.set_cons_zero, List.set_cons_succ]
              refine takeT 36 hH (hy := .inl ⟨by rfl, by (intro w hSw; try obtain ⟨u0, u1, u2, u3, u4, u5, u6, u7, u8, u9, u10, u11, v0⟩ := hSw); (go_simp; try rfl)⟩) (h := ?_)
              simp only [Act.put, List.setIfInBounds_toArray, List.set_cons_zero, List.set_cons_succ]
              refine takeT 37 hH (hy := .inl ⟨by rfl, by (intro w hSw; try obtain ⟨u0, u1, u2, u3, u4, u5, u6, u7, u8, u9, u10, u11, v0⟩ := hSw); (go_simp; try rfl)⟩) (h := ?_)
              simp only [Act.put, List.setIfInBounds_toArray, List.set_cons_zero, List.set_cons_succ]
              refine readyT [33] ?_
              refine consT (fun K hK => ?_) AllReadyH.nil
              go_simp
              go_wp2_with (go_at_call 34; refine (KNV.out _ [_] T5).mono ?_; rintro e w6 ⟨rfl, T6⟩)
              clear hH
              refine hK.out _ _ (KbaseA.out _ [_] T6) (fun hH => ?_)
              clear hK K
              refine takeT 38 hH (hy := .inl ⟨by rfl, by (intro w hSw; try obtain ⟨u0, u1, u2, u3, u4, u5, u6, u7, u8, u9, u10, u11, v0⟩ := hSw); (go_simp; try rfl)⟩) (h := ?_)
              simp only [Act.put, List.setIfInBounds_toArray, List.set_cons_zero, List.set_cons_succ]
              refine takeT 39 hH (hy := .inl ⟨by rfl, by (intro w hSw; try obtain ⟨u0, u1, u2, u3, u4, u5, u6, u7, u8, u9, u10, u11, v0⟩ := hSw); (go_simp; try rfl)⟩) (h := ?_)
              simp only [Act.put, List.setIfInBounds_toArray, List.set_cons_zero, List.set_cons_succ]
              refine takeT 40 hH (hy := .inl ⟨by rfl, by (intro w hSw; try obtain ⟨u0, u1, u2, u3, u4, u5, u6, u7, u8, u9, u10, u11, v0⟩ := hSw); (go_simp; try rfl)⟩) (h := ?_)
              simp only [Act.put, List.setIfInBounds_toArray, List.set_cons_zero, List.set_cons_succ]
              refine takeT 41 hH (hy := .inl ⟨by rfl, by (intro w hSw; try obtain ⟨u0, u1, u2, u3, u4, u5, u6, u7, u8, u9, u10, u11, v0⟩ := hSw); (go_simp; try rfl)⟩) (h := ?_)
              simp only [Act.put, List.setIfInBounds_toArray, List.set_cons_zero, List.set_cons_succ]
              refine takeT 42 hH (hy := .inl ⟨by rfl, by (intro w hSw; try obtain ⟨u0, u1, u2, u3, u4, u5, u6, u7, u8, u9, u10, u11, v0⟩ := hSw); (go_simp; try rfl)⟩) (h := ?_)
              simp only [Act.put, List.setIfInBounds_toArray, List.set_cons_zero, List.set_cons_succ]
              refine takeT 43 hH (hy := .inl ⟨by rfl, by (intro w hSw; try obtain ⟨u0, u1, u2, u3, u4, u5, u6, u7, u8, u9, u10, u11, v0⟩ := hSw); (go_simp; try rfl)⟩) (h := ?_)
              simp only [Act.put, List.setIfInBounds_toArray, List.set_cons_zero, List.set_cons_succ]
              refine readyT [44] ?_
              refine consT (fun K hK => ?_) AllReadyH.nil
              go_simp
              go_wp2_with (go_at_call 29; refine (KX.out _ [_] T6).mono ?_; rintro e w7 ⟨rfl, T7⟩)
              clear hH
              refine hK.out _ _ (KbaseA.out _ [_] T7) (fun hH => ?_)
              clear hK K
              refine takeT 45 hH (hy := .inl ⟨by rfl, by (intro w hSw; try obtain ⟨u0, u1, u2, u3, u4, u5, u6, u7, u8, u9, u10, u11, v0⟩ := hSw); (go_simp; try rfl)⟩) (h := ?_)
              simp only [Act.put, List.setIfInBounds_toArray, List.set_cons_zero, List.set_cons_succ]
              refine takeT 46 hH (hy := .inl ⟨by rfl, by (intro w hSw; try obtain ⟨u0, u1, u2, u3, u4, u5, u6, u7, u8, u9, u10, u11, v0⟩ := hSw); (go_simp; try rfl)⟩) (h := ?_)
              simp only [Act.put, List.setIfInBounds_toArray, List.set_cons_zero, List.set_cons_succ]
              refine takeT 47 hH (hy := .inl ⟨by rfl, by (intro w hSw; try obtain ⟨u0, u1, u2, u3, u4, u5, u6, u7, u8, u9, u10, u11, v0⟩ := hSw); (go_simp; try rfl)⟩) (h := ?_)
              simp only [Act.put, List.setIfInBounds_toArray, List.set_cons_zero, List.set_cons_succ]
              refine takeT 48 hH (hy := .inl ⟨by rfl, by (intro w hSw; try obtain ⟨u0, u1, u2, u3, u4, u5, u6, u7, u8, u9, u10, u11, v0⟩ := hSw); (go_simp; try rfl)⟩) (h := ?_)
              simp only [Act.put, List.setIfInBounds_toArray, List.set_cons_zero, List.set_cons_succ]
              refine takeT 49 hH (hy := .inl ⟨by rfl, by (intro w hSw; try obtain ⟨u0, u1, u2, u3, u4, u5, u6, u7, u8, u9, u10, u11, v0⟩ := hSw); (go_simp; try rfl)⟩) (h := ?_)
              simp only [Act.put, List.setIfInBounds_toArray, List.set_cons_zero, List.set_cons_succ]
              refine readyT [50] ?_
              refine consT (fun K hK => ?_) AllReadyH.nil
              go_simp
              go_wp2_with (go_at_call 28; refine (KC.out _ [_] T7).mono ?_; rintro e w8 ⟨rfl, T8⟩)
              clear hH
              refine hK.out _ _ (KbaseA.out _ [_] T8) (fun hH => ?_)
              clear hK K
              refine takeT 51 hH (hy := .inl ⟨by rfl, by (intro w hSw; try obtain ⟨u0, u1, u2, u3, u4, u5, u6, u7, u8, u9, u10, u11, v0⟩ := hSw); (go_simp; try rfl)⟩) (h := ?_)
              simp only [Act.put, List.setIfInBounds_toArray, List.set_cons_zero, List.set_cons_succ]
              refine takeT 52 hH (hy := .inl ⟨by rfl, by (intro w hSw; try obtain ⟨u0, u1, u2, u3, u4, u5, u6, u7, u8, u9, u10, u11, v0⟩ := hSw); (go_simp; try rfl)⟩) (h := ?_)
              simp only [Act.put, List.setIfInBounds_toArray, List.set_cons_zero, List.set_cons_succ]
              refine takeT 53 hH (hy := .inl ⟨by rfl, by (intro w hSw; try obtain ⟨u0, u1, u2, u3, u4, u5, u6, u7, u8, u9, u10, u11, v0⟩ := hSw); (go_simp; try rfl)⟩) (h := ?_)
              simp only [Act.put, List.setIfInBounds_toArray, List.set_cons_zero, List.set_cons_succ]
              refine takeT 54 hH (hy := .inl ⟨by rfl, by (intro w hSw; try obtain ⟨u0, u1, u2, u3, u4, u5, u6, u7, u8, u9, u10, u11, v0⟩ := hSw); (go_simp; try rfl)⟩) (h := ?_)
              simp only [Act.put, List.setIfInBounds_toArray, List.set_cons_zero, List.set_cons_succ]
              refine takeT 56 hH (hy := .inl ⟨by rfl, by (intro w hSw; try obtain ⟨u0, u1, u2, u3, u4, u5, u6, u7, u8, u9, u10, u11, v0⟩ := hSw); (go_simp; try rfl)⟩) (h := ?_)
              simp only [Act.put, List.setIfInBounds_toArray, List.set_cons_zero, List.set_cons_succ]
              refine takeT 57 hH (hy := .inl ⟨by rfl, by (intro w hSw; try obtain ⟨u0, u1, u2, u3, u4, u5, u6, u7, u8, u9, u10, u11, v0⟩ := hSw); (go_simp; try rfl)⟩) (h := ?_)
              simp only [Act.put, List.setIfInBounds_toArray, List.set_cons_zero, List.set_cons_succ]
              refine readyT [55] ?_
              refine consT (fun K hK => ?_) AllReadyH.nil
              go_simp
              go_wp2_with (go_at_call 30; refine (KL.out _ [_] T8).mono ?_; rintro e w9 ⟨rfl, T9⟩)
              clear hH
              refine hK.out _ _ (KbaseA.out _ [_] T9) (fun hH => ?_)
              clear hK K
              refine takeT 58 hH (hy := .inl ⟨by rfl, by (intro w hSw; try obtain ⟨u0, u1, u2, u3, u4, u5, u6, u7, u8, u9, u10, u11, v0⟩ := hSw); (go_simp; try rfl)⟩) (h := ?_)
              simp only [Act.put, List.setIfInBounds_toArray, List.set_cons_zero, List.set_cons_succ]
              refine takeT 59 hH (hy := .inl ⟨by rfl, by (intro w hSw; try obtain ⟨u0, u1, u2, u3, u4, u5, u6, u7, u8, u9, u10, u11, v0⟩ := hSw); (go_simp; try rfl)⟩) (h := ?_)
              simp only [Act.put, List.setIfInBounds_toArray, List.set_cons_zero, List.set_cons_succ]
              refine takeT 60 hH (hy := .inl ⟨by rfl, by (intro w hSw; try obtain ⟨u0, u1, u2, u3, u4, u5, u6, u7, u8, u9, u10, u11, v0⟩ := hSw); (go_simp; try rfl)⟩) (h := ?_)
              simp only [Act.put, List.setIfInBounds_toArray, List.set_cons_zero, List.set_cons_succ]
              refine takeT 61 hH (hy := .inl ⟨by rfl, by (intro w hSw; try obtain ⟨u0, u1, u2, u3, u4, u5, u6, u7, u8, u9, u10, u11, v0⟩ := hSw); (go_simp; try rfl)⟩) (h := ?_)
              simp only [Act.put, List.setIfInBounds_toArray, List.set_cons_zero, List.set_cons_succ]
              refine takeT 62 hH (hy := .inl ⟨by rfl, by (intro w hSw; try obtain ⟨u0, u1, u2, u3, u4, u5, u6, u7, u8, u9, u10, u11, v0⟩ := hSw); (go_simp; try rfl)⟩) (h := ?_)
              simp only [Act.put, List.setIfInBounds_toArray, List.set_cons_zero, List.set_cons_succ]
              refine readyT [63] ?_
              refine consT (fun K hK => ?_) AllReadyH.nil
              go_simp
              go_wp2_with (go_at_call 35; refine (KZ.out _ [_] T9).mono ?_; rintro e w10 ⟨rfl, T10⟩)
              clear hH
              refine hK.out _ _ (KbaseA.out _ [_] T10) (fun hH => ?_)
              clear hK K
              refine takeT 64 hH (hy := .inl ⟨by rfl, by (intro w hSw; try obtain ⟨u0, u1, u2, u3, u4, u5, u6, u7, u8, u9, u10, u11, v0⟩ := hSw); (go_simp; try rfl)⟩) (h := ?_)
              simp only [Act.put, List.setIfInBounds_toArray, List.set_cons_zero, List.set_cons_succ]
              refine takeT 65 hH (hy := .inl ⟨by rfl, by (intro w hSw; try obtain ⟨u0, u1, u2, u3, u4, u5, u6, u7, u8, u9, u10, u11, v0⟩ := hSw); (go_simp; try rfl)⟩) (h := ?_)
              simp only [Act.put, List.setIfInBounds_toArray, List.set_cons_zero, List.set_cons_succ]
              refine takeT 66 hH (hy := .inl ⟨by rfl, by (intro w hSw; try obtain ⟨u0, u1, u2, u3, u4, u5, u6, u7, u8, u9, u10, u11, v0⟩ := hSw); (go_simp; try rfl)⟩) (h := ?_)
              simp only [Act.put, List.setIfInBounds_toArray, List.set_cons_zero, List.set_cons_succ]
              refine wpAnyH_done (by kernel_rfl) ?_ _
              as_aux_lemma =>
                go_wp2_with fail
                go_meet
                exact ⟨rfl, T10.below⟩
          case rest =>
            obtain ⟨rfl, hB⟩ := hcut
            have HB := Lib.hid hB
            clear hB
            go_wp2
            go_ret
            exact ⟨rfl, HB.out⟩
          | true =>
            replace HF : Hid (ArgsF H2 (V.ref vn hov) (V.ref tn hot) (V.ref cn hoc) (V.ref (L + 19) hb19) k [y] m) := HF
            have d0 := cellAt (S.box (b := b + 1) 7 rfl) 0 (v := .int .i64 y.kind) rfl
            have d1 := cellAt (S.box (b := b + 1) 7 rfl) 1 (v := .int .i64 y.n) rfl
            have d2 := cellAt (S.box (b := b + 1) 7 rfl) 2 (v := .string y.s) rfl
            have S8 := Lib.hid (S.alloc (.cells #[.int .i64 y.kind, .int .i64 y.n, .string y.s] 31))
            have hone := Lib.hid (sees_one (f := V.cells) (m := 3) (y := y) (heapAllocNew (wc.alloc (.cells #[] 31)) (.cells #[.int .i64 y.kind, .int .i64 y.n, .string y.s] 31)) rfl)
            simp only [World.size_alloc, hx17] at hone
            clear S
            go_wp2_with (at_builtin; (try simp only [hx17]); refine wpList_append_rows rfl _ _ 48 31 rfl Tryd.underlying48 _ 32 info_val rfl (by decide) (by decide) V.cells_len (by intro p u hu; simp [V.cells] at hu; rcases hu with rfl | rfl | rfl <;> rfl) S8.out 1 rfl rfl _ [y] rfl hone.out (by simp) ?_)
            intro va vc w6 S9
            replace S := S9.tail
            clear S8 S9 hone hx17 d0 d1 d2
            replace S : Sep w (valsR (.slice va 1 vc) [y] :: boxR q15 (.cells #[.int .i64 4, .int .i64 tn, .string ⟨#[]⟩] 31) :: boxR q14 (.cells #[.int .i64 4, .int .i64 vn, .string ⟨#[]⟩] 31) :: strsR (.slice (some ⟨g, 0, none⟩) 17 nc) (takeN 17) :: boxR x10 (.cells #[.int .i64 4, .int .i64 (L + 19), .string ⟨#[]⟩] 31) :: valsR (.slice oa l.length oc) l :: heapR h H2 :: boxR (b + 1) (.cells #[.int .i64 y.kind, .int .i64 y.n, .string y.s] 31) :: boxR b (.cells #[.int .i64 a, .slice ba svs.length bc, .slice ia I.length ic] 46) :: []) _ := S
            have d0 := cellAt (S.box (b := q14) 2 rfl) 0 (v := .int .i64 4) rfl
            have d1 := cellAt (S.box (b := q14) 2 rfl) 1 (v := .int .i64 vn) rfl
            have d2 := cellAt (S.box (b := q14) 2 rfl) 2 (v := .string ⟨#[]⟩) rfl
            have M := Lib.hid (kx_of S 6 rfl vn cn hov hoc HF.out.of)
            clear S
            go_wp2_with fail
            refine M.out.mono ?_
            rintro e w7 ⟨rfl, S⟩
            clear M d0 d1 d2
            replace S : Sep w (valsR (.slice va 1 vc) [y] :: boxR q15 (.cells #[.int .i64 4, .int .i64 tn, .string ⟨#[]⟩] 31) :: boxR q14 (.cells #[.int .i64 4, .int .i64 vn, .string ⟨#[]⟩] 31) :: strsR (.slice (some ⟨g, 0, none⟩) 17 nc) (takeN 17) :: boxR x10 (.cells #[.int .i64 4, .int .i64 (L + 19), .string ⟨#[]⟩] 31) :: valsR (.slice oa l.length oc) l :: heapR h H2 :: boxR (b + 1) (.cells #[.int .i64 y.kind, .int .i64 y.n, .string y.s] 31) :: boxR b (.cells #[.int .i64 a, .slice ba svs.length bc, .slice ia I.length ic] 46) :: []) _ := S
            obtain ⟨x18, hx18⟩ : ∃ gx_, (w7.heap.size) = gx_ := ⟨_, rfl⟩
            replace S := (S.alloc (.cells #[.int .i64 4, .int .i64 cn, .string ⟨#[]⟩] 31))
            simp only [World.size_alloc, hx18] at S
            replace S : Sep w (boxR x18 (.cells #[.int .i64 4, .int .i64 cn, .string ⟨#[]⟩] 31) :: valsR (.slice va 1 vc) [y] :: boxR q15 (.cells #[.int .i64 4, .int .i64 tn, .string ⟨#[]⟩] 31) :: boxR q14 (.cells #[.int .i64 4, .int .i64 vn, .string ⟨#[]⟩] 31) :: strsR (.slice (some ⟨g, 0, none⟩) 17 nc) (takeN 17) :: boxR x10 (.cells #[.int .i64 4, .int .i64 (L + 19), .string ⟨#[]⟩] 31) :: valsR (.slice oa l.length oc) l :: heapR h H2 :: boxR (b + 1) (.cells #[.int .i64 y.kind, .int .i64 y.n, .string y.s] 31) :: boxR b (.cells #[.int .i64 a, .slice ba svs.length bc, .slice ia I.length ic] 46) :: []) _ := S
            obtain ⟨baseA, hbaseA⟩ : ∃ base, base = boxR x18 (.cells #[.int .i64 4, .int .i64 cn, .string ⟨#[]⟩] 31) :: valsR (.slice va 1 vc) [y] :: boxR q15 (.cells #[.int .i64 4, .int .i64 tn, .string ⟨#[]⟩] 31) :: boxR q14 (.cells #[.int .i64 4, .int .i64 vn, .string ⟨#[]⟩] 31) :: strsR (.slice (some ⟨g, 0, none⟩) 17 nc) (takeN 17) :: boxR x10 (.cells #[.int .i64 4, .int .i64 (L + 19), .string ⟨#[]⟩] 31) :: valsR (.slice oa l.length oc) l :: heapR h H2 :: boxR (b + 1) (.cells #[.int .i64 y.kind, .int .i64 y.n, .string y.s] 31) :: boxR b (.cells #[.int .i64 a, .slice ba svs.length bc, .slice ia I.length ic] 46) :: [] := ⟨_, rfl⟩
            have HbaseA := Lib.hid hbaseA
            have KbaseA : Hid (∀ W (Q : List Res), Sep w (Q ++ baseA) W → W.cell? ⟨x10, 0, none⟩ = some (.int .i64 4) ∧ W.cell? ⟨x10, 1, none⟩ = some (.int .i64 (L + 19)) ∧ W.cell? ⟨x10, 2, none⟩ = some (.string ⟨#[]⟩) ∧ W.cell? ⟨q14, 0, none⟩ = some (.int .i64 4) ∧ W.cell? ⟨q14, 1, none⟩ = some (.int .i64 vn) ∧ W.cell? ⟨q14, 2, none⟩ = some (.string ⟨#[]⟩) ∧ W.cell? ⟨q15, 0, none⟩ = some (.int .i64 4) ∧ W.cell? ⟨q15, 1, none⟩ = some (.int .i64 tn) ∧ W.cell? ⟨q15, 2, none⟩ = some (.string ⟨#[]⟩) ∧ W.cell? ⟨x18, 0, none⟩ = some (.int .i64 4) ∧ W.cell? ⟨x18, 1, none⟩ = some (.int .i64 cn) ∧ W.cell? ⟨x18, 2, none⟩ = some (.string ⟨#[]⟩) ∧ W.cell? ⟨g, k, none⟩ = some (.string (nameF k))) := Lib.hid fun W Q T => by
              rw [hbaseA] at T
              have i0 := T.box (b := x10) (o := .cells #[.int .i64 4, .int .i64 (L + 19), .string ⟨#[]⟩] 31) (Q.length + 5) (by rw [List.getElem?_append_right (by omega), Nat.add_sub_cancel_left]; rfl)
              have i1 := T.box (b := q14) (o := .cells #[.int .i64 4, .int .i64 vn, .string ⟨#[]⟩] 31) (Q.length + 3) (by rw [List.getElem?_append_right (by omega), Nat.add_sub_cancel_left]; rfl)
              have i2 := T.box (b := q15) (o := .cells #[.int .i64 4, .int .i64 tn, .string ⟨#[]⟩] 31) (Q.length + 2) (by rw [List.getElem?_append_right (by omega), Nat.add_sub_cancel_left]; rfl)
              have i3 := T.box (b := x18) (o := .cells #[.int .i64 4, .int .i64 cn, .string ⟨#[]⟩] 31) (Q.length + 0) (by rw [List.getElem?_append_right (by omega), Nat.add_sub_cancel_left]; rfl)
              exact ⟨cellAt i0 0 rfl, cellAt i0 1 rfl, cellAt i0 2 rfl, cellAt i1 0 rfl, cellAt i1 1 rfl, cellAt i1 2 rfl, cellAt i2 0 rfl, cellAt i2 1 rfl, cellAt i2 2 rfl, cellAt i3 0 rfl, cellAt i3 1 rfl, cellAt i3 2 rfl, strs_cell T (Q.length + 4) (by rw [List.getElem?_append_right (by omega), Nat.add_sub_cancel_left]; rfl) HK.out⟩
            have KR : Hid (∀ W (Q : List Res), Sep w (Q ++ baseA) W → Calls Tryd.prog 8 #[] W fun e W' => e = .returned (.bool true) ∧ Sep w (Q ++ baseA) W') := Lib.hid fun W Q T => by
              exact raised_ok T HGL.out
            have KK : Hid (∀ W (Q : List Res), Sep w (Q ++ baseA) W → Calls Tryd.prog 26 #[.pointer (some ⟨h, 0, none⟩), .agg #[.int .i64 4, .int .i64 tn, .string ⟨#[]⟩]] W fun e W' => e = .returned (.int .i64 2) ∧ Sep w (Q ++ baseA) W') := Lib.hid fun W Q T => by
              rw [HbaseA.out] at T ⊢
              exact kr_kind T (Q.length + 7) (by rw [List.getElem?_append_right (by omega), Nat.add_sub_cancel_left]; rfl) (V.ref tn hot) 2 HF.out.kindA
            have KI : Hid (∀ W (Q : List Res), Sep w (Q ++ baseA) W → Calls Tryd.prog 33 #[.pointer (some ⟨h, 0, none⟩), .agg #[.int .i64 4, .int .i64 tn, .string ⟨#[]⟩]] W fun e W' => ∃ ta tc, e = .returned (.slice ta 1 tc) ∧ Sep w ((valsR (.slice ta 1 tc) [y] :: Q) ++ baseA) W') := Lib.hid fun W Q T => by
              rw [HbaseA.out] at T ⊢
              exact kr_items T (Q.length + 7) (by rw [List.getElem?_append_right (by omega), Nat.add_sub_cancel_left]; rfl) HF.out.fit.G (by omega) (V.ref tn hot) [y] HF.out.itemsA
            have KS : Hid (∀ W (Q : List Res) ta tc, Sep w ((valsR (.slice ta 1 tc) [y] :: Q) ++ baseA) W → Calls Tryd.prog 32 #[.slice ta 1 tc, .slice va 1 vc] W fun e W' => e = .returned (.bool true) ∧ Sep w ((valsR (.slice ta 1 tc) [y] :: Q) ++ baseA) W') := Lib.hid fun W Q ta tc T => by
              rw [HbaseA.out] at T ⊢
              have hw := T.row (v := .slice va 1 vc) (l := [y]) ((valsR (.slice ta 1 tc) [y] :: Q).length + 1) (by rw [List.getElem?_append_right (by omega), Nat.add_sub_cancel_left]; rfl)
              exact (same_vals _ _ _ [y] [y] ((T.row 0 rfl).sees') hw.sees').mono fun e W1 hh => ⟨by rw [hh.1]; simp, by obtain ⟨q, hq⟩ := hh.2; rw [hq]; exact T.drewN q⟩
            have KN : Hid (∀ W (Q : List Res), Sep w (Q ++ baseA) W → Calls Tryd.prog 34 #[.pointer (some ⟨h, 0, none⟩), .agg #[.int .i64 4, .int .i64 cn, .string ⟨#[]⟩]] W fun e W' => e = .returned (.string (nameF k)) ∧ Sep w (Q ++ baseA) W') := Lib.hid fun W Q T => by
              rw [HbaseA.out] at T ⊢
              exact kr_name T (Q.length + 7) (by rw [List.getElem?_append_right (by omega), Nat.add_sub_cancel_left]; rfl) (V.ref cn hoc) (nameF k) HF.out.nameC
            have KNV : Hid (∀ W (Q : List Res), Sep w (Q ++ baseA) W → Calls Tryd.prog 34 #[.pointer (some ⟨h, 0, none⟩), .agg #[.int .i64 4, .int .i64 vn, .string ⟨#[]⟩]] W fun e W' => e = .returned (.string (nameF k)) ∧ Sep w (Q ++ baseA) W') := Lib.hid fun W Q T => by
              rw [HbaseA.out] at T ⊢
              exact kr_name T (Q.length + 7) (by rw [List.getElem?_append_right (by omega), Nat.add_sub_cancel_left]; rfl) (V.ref vn hov) (nameF k) HF.out.nameV
            have KX : Hid (∀ W (Q : List Res), Sep w (Q ++ baseA) W → Calls Tryd.prog 29 #[.pointer (some ⟨h, 0, none⟩), .agg #[.int .i64 4, .int .i64 (L + 19), .string ⟨#[]⟩], .agg #[.int .i64 4, .int .i64 vn, .string ⟨#[]⟩]] W fun e W' => e = .returned (.bool true) ∧ Sep w (Q ++ baseA) W') := Lib.hid fun W Q T => by
              rw [HbaseA.out] at T ⊢
              exact kx_is T (Q.length + 7) (by rw [List.getElem?_append_right (by omega), Nat.add_sub_cancel_left]; rfl) HF.out.fit.G (by omega) (V.ref (L + 19) hb19) (V.ref vn hov) true HF.out.is
            have KC : Hid (∀ W (Q : List Res), Sep w (Q ++ baseA) W → Calls Tryd.prog 28 #[.pointer (some ⟨h, 0, none⟩), .agg #[.int .i64 4, .int .i64 (L + 19), .string ⟨#[]⟩], .agg #[.int .i64 4, .int .i64 vn, .string ⟨#[]⟩]] W fun e W' => e = .returned (.bool false) ∧ Sep w (Q ++ baseA) W') := Lib.hid fun W Q T => by
              rw [HbaseA.out] at T ⊢
              exact kx_cls T (Q.length + 7) (by rw [List.getElem?_append_right (by omega), Nat.add_sub_cancel_left]; rfl) HF.out.fit.G (by omega) (V.ref (L + 19) hb19) (V.ref vn hov) false HF.out.cls
            have KL : Hid (∀ W (Q : List Res), Sep w (Q ++ baseA) W → Calls Tryd.prog 30 #[.pointer (some ⟨h, 0, none⟩), .int .i64 0] W fun e W' => e = .returned (.int .i64 (m + 2)) ∧ Sep w (Q ++ baseA) W') := Lib.hid fun W Q T => by
              rw [HbaseA.out] at T ⊢
              exact kx_live T (Q.length + 7) (by rw [List.getElem?_append_right (by omega), Nat.add_sub_cancel_left]; rfl) HF.out.fit.G (by omega) (m + 2) HF.out.live
            have KZ : Hid (∀ W (Q : List Res), Sep w (Q ++ baseA) W → Calls Tryd.prog 35 #[.pointer (some ⟨h, 0, none⟩), .agg #[.int .i64 4, .int .i64 vn, .string ⟨#[]⟩]] W fun e W' => e = .returned (.int .i64 1) ∧ Sep w (Q ++ baseA) W') := Lib.hid fun W Q T => by
              rw [HbaseA.out] at T ⊢
              exact kx_size T (Q.length + 7) (by rw [List.getElem?_append_right (by omega), Nat.add_sub_cancel_left]; rfl) (V.ref vn hov) 1 HF.out.size
            have hw : IntKind.wrap .i64 (m + 2) = m + 2 := IntWalk.i64_in _ (by omega)
            replace S : Sep w (baseA) (w7.alloc (.cells #[.int .i64 4, .int .i64 cn, .string ⟨#[]⟩] 31)) := by rw [hbaseA]; exact S
            replace S := Lib.hid S
            clear hbaseA
            go_upto_region 14 with fail
            try simp only [hx18]
            obtain ⟨Wd14, hW⟩ : ∃ gx_, ((w7.alloc (.cells #[.int .i64 4, .int .i64 cn, .string ⟨#[]⟩] 31))) = gx_ := ⟨_, rfl⟩
            rw [hW] at S ⊢
            clear hW hx18
            go_cut [8] (fun s8 wx => s8 = .bool true ∧ Below w.heap.size w wx)
            case first =>
              have T0 : Sep w ([] ++ baseA) _ := S.out.drew
              clear S
              as_aux_lemma =>
                refine wp_region_held_drew (S := fun W => W.cell? ⟨x10, 0, none⟩ = some (.int .i64 4) ∧ W.cell? ⟨x10, 1, none⟩ = some (.int .i64 (L + 19)) ∧ W.cell? ⟨x10, 2, none⟩ = some (.string ⟨#[]⟩) ∧ W.cell? ⟨q14, 0, none⟩ = some (.int .i64 4) ∧ W.cell? ⟨q14, 1, none⟩ = some (.int .i64 vn) ∧ W.cell? ⟨q14, 2, none⟩ = some (.string ⟨#[]⟩) ∧ W.cell? ⟨q15, 0, none⟩ = some (.int .i64 4) ∧ W.cell? ⟨q15, 1, none⟩ = some (.int .i64 tn) ∧ W.cell? ⟨q15, 2, none⟩ = some (.string ⟨#[]⟩) ∧ W.cell? ⟨x18, 0, none⟩ = some (.int .i64 4) ∧ W.cell? ⟨x18, 1, none⟩ = some (.int .i64 cn) ∧ W.cell? ⟨x18, 2, none⟩ = some (.string ⟨#[]⟩) ∧ W.cell? ⟨g, k, none⟩ = some (.string (nameF k))) (by kernel_rfl) (KbaseA.out _ [] T0) (fun hH => ?_)
                refine readyT [0] ?_
                refine consT (fun K hK => ?_) AllReadyH.nil
                go_simp
                go_wp2_with (go_at_call 8; refine (KR.out _ [] T0).mono ?_; rintro e w1 ⟨rfl, T1⟩)
                clear hH
                refine hK.out _ _ (KbaseA.out _ [] T1) (fun hH => ?_)
                clear hK K
                refine takeT 1 hH (hy := .inl ⟨by rfl, by (intro w hSw; try obtain ⟨u0, u1, u2, u3, u4, u5, u6, u7, u8, u9, u10, u11, v0⟩ := hSw); (go_simp; try rfl)⟩) (h := ?_)
                simp only [Act.put, List.setIfInBounds_toArray, List.set_cons_zero, List.set_cons_succ]
                refine takeT 2 hH (hy := .inl ⟨by rfl, by (intro w hSw; try obtain ⟨u0, u1, u2, u3, u4, u5, u6, u7, u8, u9, u10, u11, v0⟩ := hSw); (go_simp; try rfl)⟩) (h := ?_)
                simp only [Act.put, List.setIfInBounds_toArray, List.set_cons_zero, List.set_cons_succ]
                refine takeT 3 hH (hy := .inl ⟨by rfl, by (intro w hSw; try obtain ⟨u0, u1, u2, u3, u4, u5, u6, u7, u8, u9, u10, u11, v0⟩ := hSw); (go_simp; try rfl)⟩) (h := ?_)
                simp only [Act.put, List.setIfInBounds_toArray, List.set_cons_zero, List.set_cons_succ]
                refine takeT 4 hH (hy := .inl ⟨by rfl, by (intro w hSw; try obtain ⟨u0, u1, u2, u3, u4, u5, u6, u7, u8, u9, u10, u11, v0⟩ := hSw); (go_simp; try rfl)⟩) (h := ?_)
                simp only [Act.put, List.setIfInBounds_toArray, List.set_cons_zero, List.set_cons_succ]
                refine takeT 5 hH (hy := .inl ⟨by rfl, by (intro w hSw; try obtain ⟨u0, u1, u2, u3, u4, u5, u6, u7, u8, u9, u10, u11, v0⟩ := hSw); (go_simp; try rfl)⟩) (h := ?_)
                simp only [Act.put, List.setIfInBounds_toArray, List.set_cons_zero, List.set_cons_succ]
                refine takeT 6 hH (hy := .inl ⟨by rfl, by (intro w hSw; try obtain ⟨u0, u1, u2, u3, u4, u5, u6, u7, u8, u9, u10, u11, v0⟩ := hSw); (go_simp; try rfl)⟩) (h := ?_)
                simp only [Act.put, List.setIfInBounds_toArray, List.set_cons_zero, List.set_cons_succ]
                refine takeT 7 hH (hy := .inl ⟨by rfl, by (intro w hSw; try obtain ⟨u0, u1, u2, u3, u4, u5, u6, u7, u8, u9, u10, u11, v0⟩ := hSw); (go_simp; try rfl)⟩) (h := ?_)
                simp only [Act.put, List.setIfInBounds_toArray, List.set_cons_zero, List.set_cons_succ]
                refine takeT 8 hH (hy := .inl ⟨by rfl, by (intro w hSw; try obtain ⟨u0, u1, u2, u3, u4, u5, u6, u7, u8, u9, u10, u11, v0⟩ := hSw); (go_simp; try rfl)⟩) (h := ?_)
                simp only [Act.put, List.setIfInBounds_toArray, List.set_cons_zero, List.set_cons_succ]
                refine takeT 9 hH (hy := .inl ⟨by rfl, by (intro w hSw; try obtain ⟨u0, u1, u2, u3, u4, u5, u6, u7, u8, u9, u10, u11, v0⟩ := hSw); (go_simp; try rfl)⟩) (h := ?_)
                simp only [Act.put, List.setIfInBounds_toArray, List.set_cons_zero, List.set_cons_succ]
                refine readyT [10] ?_
                refine consT (fun K hK => ?_) AllReadyH.nil
                go_simp
                go_wp2_with (go_at_call 26; refine (KK.out _ [] T1).mono ?_; rintro e w2 ⟨rfl, T2⟩)
                clear hH
                refine hK.out _ _ (KbaseA.out _ [] T2) (fun hH => ?_)
                clear hK K
                refine takeT 11 hH (hy := .inl ⟨by rfl, by (intro w hSw; try obtain ⟨u0, u1, u2, u3, u4, u5, u6, u7, u8, u9, u10, u11, v0⟩ := hSw); (go_simp; try rfl)⟩) (h := ?_)
                simp only [Act.put, List.setIfInBounds_toArray, List.set_cons_zero, List.set_cons_succ]
                refine takeT 12 hH (hy := .inl ⟨by rfl, by (intro w hSw; try obtain ⟨u0, u1, u2, u3, u4, u5, u6, u7, u8, u9, u10, u11, v0⟩ := hSw); (go_simp; try rfl)⟩) (h := ?_)
                simp only [Act.put, List.setIfInBounds_toArray, List.set_cons_zero, List.set_cons_succ]
                refine takeT 13 hH (hy := .inl ⟨by rfl, by (intro w hSw; try obtain ⟨u0, u1, u2, u3, u4, u5, u6, u7, u8, u9, u10, u11, v0⟩ := hSw); (go_simp; try rfl)⟩) (h := ?_)
                simp only [Act.put, List.setIfInBounds_toArray, List.set_cons_zero, List.set_cons_succ]
                refine takeT 14 hH (hy := .inl ⟨by rfl, by (intro w hSw; try obtain ⟨u0, u1, u2, u3, u4, u5, u6, u7, u8, u9, u10, u11, v0⟩ := hSw); (go_simp; try rfl)⟩) (h := ?_)
                simp only [Act.put, List.setIfInBounds_toArray, List.set_cons_zero, List.set_cons_succ]
                refine takeT 15 hH (hy := .inl ⟨by rfl, by (intro w hSw; try obtain ⟨u0, u1, u2, u3, u4, u5, u6, u7, u8, u9, u10, u11, v0⟩ := hSw); (go_simp; try rfl)⟩) (h := ?_)
                simp only [Act.put, List.setIfInBounds_toArray, List.set_cons_zero, List.set_cons_succ]
                refine takeT 17 hH (hy := .inl ⟨by rfl, by (intro w hSw; try obtain ⟨u0, u1, u2, u3, u4, u5, u6, u7, u8, u9, u10, u11, v0⟩ := hSw); (go_simp; try rfl)⟩) (h := ?_)
                simp only [Act.put, List.setIfInBounds_toArray, List.set_cons_zero, List.set_cons_succ]
                refine readyT [16] ?_
                refine consT (fun K hK => ?_) AllReadyH.nil
                go_simp
                go_wp2_with (go_at_call 33; refine (KI.out _ [] T2).mono ?_; rintro e w3 ⟨ta, tc, rfl, T3⟩)
                clear hH
                refine hK.out _ _ (KbaseA.out _ [_] T3) (fun hH => ?_)
                clear hK K
                refine readyT [18] ?_
                refine consT (fun K hK => ?_) AllReadyH.nil
                go_simp
                go_wp2_with (go_at_call 32; refine (KS.out _ [] _ _ T3).mono ?_; rintro e w4 ⟨rfl, T4⟩)
                clear hH
                refine hK.out _ _ (KbaseA.out _ [_] T4) (fun hH => ?_)
                clear hK K
                refine takeT 19 hH (hy := .inl ⟨by rfl, by (intro w hSw; try obtain ⟨u0, u1, u2, u3, u4, u5, u6, u7, u8, u9, u10, u11, v0⟩ := hSw); (go_simp; try rfl)⟩) (h := ?_)
                simp only [Act.put, List.setIfInBounds_toArray, List.set_cons_zero, List.set_cons_succ]
                refine takeT 20 hH (hy := .inl ⟨by rfl, by (intro w hSw; try obtain ⟨u0, u1, u2, u3, u4, u5, u6, u7, u8, u9, u10, u11, v0⟩ := hSw); (go_simp; try rfl)⟩) (h := ?_)
                simp only [Act.put, List.setIfInBounds_toArray, List.set_cons_zero, List.set_cons_succ]
                refine takeT 21 hH (hy := .inl ⟨by rfl, by (intro w hSw; try obtain ⟨u0, u1, u2, u3, u4, u5, u6, u7, u8, u9, u10, u11, v0⟩ := hSw); (go_simp; try rfl)⟩) (h := ?_)
                simp only [Act.put, List.setIfInBounds_toArray, List.set_cons_zero, List.set_cons_succ]
                refine takeT 22 hH (hy := .inl ⟨by rfl, by (intro w hSw; try obtain ⟨u0, u1, u2, u3, u4, u5, u6, u7, u8, u9, u10, u11, v0⟩ := hSw); (go_simp; try rfl)⟩) (h := ?_)
                simp only [Act.put, List.setIfInBounds_toArray, List.set_cons_zero, List.set_cons_succ]
                refine takeT 24 hH (hy := .inl ⟨by rfl, by (intro w hSw; try obtain ⟨u0, u1, u2, u3, u4, u5, u6, u7, u8, u9, u10, u11, v0⟩ := hSw); (go_simp; try rfl)⟩) (h := ?_)
                simp only [Act.put, List.setIfInBounds_toArray, List.set_cons_zero, List.set_cons_succ]
                refine takeT 25 hH (hy := .inl ⟨by rfl, by (intro w hSw; try obtain ⟨u0, u1, u2, u3, u4, u5, u6, u7, u8, u9, u10, u11, v0⟩ := hSw); (go_simp; try rfl)⟩) (h := ?_)
                simp only [Act.put, List.setIfInBounds_toArray, List.set_cons_zero, List.set_cons_succ]
                refine takeT 26 hH (hy := .inl ⟨by rfl, by (intro w hSw; try obtain ⟨u0, u1, u2, u3, u4, u5, u6, u7, u8, u9, u10, u11, v0⟩ := hSw); (go_simp; try rfl)⟩) (h := ?_)
                simp only [Act.put, List.setIfInBounds_toArray, List.set_cons_zero, List.set_cons_succ]
                refine takeT 27 hH (hy := .inl ⟨by rfl, by (intro w hSw; try obtain ⟨u0, u1, u2, u3, u4, u5, u6, u7, u8, u9, u10, u11, v0⟩ := hSw); (go_simp; try rfl)⟩) (h := ?_)
                simp only [Act.put, List.setIfInBounds_toArray, List.set_cons_zero, List.set_cons_succ]
                refine readyT [23] ?_
                refine consT (fun K hK => ?_) AllReadyH.nil
                go_simp
                go_wp2_with (go_at_call 34; refine (KN.out _ [_] T4).mono ?_; rintro e w5 ⟨rfl, T5⟩)
                clear hH
                refine hK.out _ _ (KbaseA.out _ [_] T5) (fun hH => ?_)
                clear hK K
                refine takeT 28 hH (hy := .inl ⟨by rfl, by (intro w hSw; try obtain ⟨u0, u1, u2, u3, u4, u5, u6, u7, u8, u9, u10, u11, v0⟩ := hSw); (go_simp; try rfl)⟩) (h := ?_)
                simp only [Act.put, List.setIfInBounds_toArray, List.set_cons_zero, List.set_cons_succ]
                refine takeT 29 hH (hy := .inl ⟨by rfl, by (intro w hSw; try obtain ⟨u0, u1, u2, u3, u4, u5, u6, u7, u8, u9, u10, u11, v0⟩ := hSw); (go_simp; try rfl)⟩) (h := ?_)
                simp only [Act.put, List.setIfInBounds_toArray, List.set_cons_zero, List.set_cons_succ]
                refine takeT 30 hH (hy := .inl ⟨by rfl, by (intro w hSw; try obtain ⟨u0, u1, u2, u3, u4, u5, u6, u7, u8, u9, u10, u11, v0⟩ := hSw); (go_simp; try rfl)⟩) (h := ?_)
                simp only [Act.put, List.setIfInBounds_toArray, List.set_cons_zero, List.set_cons_succ]
                refine takeT 31 hH (hy := .inl ⟨by rfl, by (intro w hSw; try obtain ⟨u0, u1, u2, u3, u4, u5, u6, u7, u8, u9, u10, u11, v0⟩ := hSw); (go_simp; try rfl)⟩) (h := ?_)
                simp only [Act.put, List.setIfInBounds_toArray, List.set_cons_zero, List.set_cons_succ]
                refine takeT 32 hH (hy := .inl ⟨by rfl, by (intro w hSw; try obtain ⟨u0, u1, u2, u3, u4, u5, u6, u7, u8, u9, u10, u11, v0⟩ := hSw); (go_simp; try rfl)⟩) (h := ?_)
                simp only [Act.put, List.setIfInBounds_toArray, List.set_cons_zero, List.set_cons_succ]
                refine takeT 34 hH (hy := .inl ⟨by rfl, by (intro w hSw; try obtain ⟨u0, u1, u2, u3, u4, u5, u6, u7, u8, u9, u10, u11, v0⟩ := hSw); (go_simp; try rfl)⟩) (h := ?_)
                simp only [Act.put, List.setIfInBounds_toArray, List.set_cons_zero, List.set_cons_succ]
                refine takeT 35 hH (hy := .inl ⟨by rfl, by (intro w hSw; try obtain ⟨u0, u1, u2, u3, u4, u5, u6, u7, u8, u9, u10, u11, v0⟩ := hSw); (go_simp; try rfl)⟩) (h := ?_)
                simp only [Act.put, List.setIfInBounds_toArray, List.set_cons_zero, List.set_cons_succ]
                refine takeT 36 hH (hy := .inl ⟨by rfl, by (intro w hSw; try obtain ⟨u0, u1, u2, u3, u4, u5, u6, u7, u8, u9, u10, u11, v0⟩ := hSw); (go_simp; try rfl)⟩) (h := ?_)
                simp only [Act.put, List.setIfInBounds_toArray, List.set_cons_zero, List.set_cons_succ]
                refine takeT 37 hH (hy := .inl ⟨by rfl, by (intro w hSw; try obtain ⟨u0, u1, u2, u3, u4, u5, u6, u7, u8, u9, u10, u11, v0⟩ := hSw); (go_simp; try rfl)⟩) (h := ?_)
                simp only [Act.put, List.setIfInBounds_toArray, List.set_cons_zero, List.set_cons_succ]
                refine readyT [33] ?_
                refine consT (fun K hK => ?_) AllReadyH.nil
                go_simp
                go_wp2_with (go_at_call 34; refine (KNV.out _ [_] T5).mono ?_; rintro e w6 ⟨rfl, T6⟩)
                clear hH
                refine hK.out _ _ (KbaseA.out _ [_] T6) (fun hH => ?_)
                clear hK K
                refine takeT 38 hH (hy := .inl ⟨by rfl, by (intro w hSw; try obtain ⟨u0, u1, u2, u3, u4, u5, u6, u7, u8, u9, u10, u11, v0⟩ := hSw); (go_simp; try rfl)⟩) (h := ?_)
                simp only [Act.put, List.setIfInBounds_toArray, List.set_cons_zero, List.set_cons_succ]
                refine takeT 39 hH (hy := .inl ⟨by rfl, by (intro w hSw; try obtain ⟨u0, u1, u2, u3, u4, u5, u6, u7, u8, u9, u10, u11, v0⟩ := hSw); (go_simp; try rfl)⟩) (h := ?_)
                simp only [Act.put, List.setIfInBounds_toArray, List.set_cons_zero, List.set_cons_succ]
                refine takeT 40 hH (hy := .inl ⟨by rfl, by (intro w hSw; try obtain ⟨u0, u1, u2, u3, u4, u5, u6, u7, u8, u9, u10, u11, v0⟩ := hSw); (go_simp; try rfl)⟩) (h := ?_)
                simp only [Act.put, List.setIfInBounds_toArray, List.set_cons_zero, List.set_cons_succ]
                refine takeT 41 hH (hy := .inl ⟨by rfl, by (intro w hSw; try obtain ⟨u0, u1, u2, u3, u4, u5, u6, u7, u8, u9, u10, u11, v0⟩ := hSw); (go_simp; try rfl)⟩) (h := ?_)
                simp only [Act.put, List.setIfInBounds_toArray, List.set_cons_zero, List.set_cons_succ]
                refine takeT 42 hH (hy := .inl ⟨by rfl, by (intro w hSw; try obtain ⟨u0, u1, u2, u3, u4, u5, u6, u7, u8, u9, u10, u11, v0⟩ := hSw); (go_simp; try rfl)⟩) (h := ?_)
                simp only [Act.put, List.setIfInBounds_toArray, List.set_cons_zero, List.set_cons_succ]
                refine takeT 43 hH (hy := .inl ⟨by rfl, by (intro w hSw; try obtain ⟨u0, u1, u2, u3, u4, u5, u6, u7, u8, u9, u10, u11, v0⟩ := hSw); (go_simp; try rfl)⟩) (h := ?_)
                simp only [Act.put, List.setIfInBounds_toArray, List.set_cons_zero, List.set_cons_succ]
                refine readyT [44] ?_
                refine consT (fun K hK => ?_) AllReadyH.nil
                go_simp
                go_wp2_with (go_at_call 29; refine (KX.out _ [_] T6).mono ?_; rintro e w7 ⟨rfl, T7⟩)
                clear hH
                refine hK.out _ _ (KbaseA.out _ [_] T7) (fun hH => ?_)
                clear hK K
                refine takeT 45 hH (hy := .inl ⟨by rfl, by (intro w hSw; try obtain ⟨u0, u1, u2, u3, u4, u5, u6, u7, u8, u9, u10, u11, v0⟩ := hSw); (go_simp; try rfl)⟩) (h := ?_)
                simp only [Act.put, List.setIfInBounds_toArray, List.set_cons_zero, List.set_cons_succ]
                refine takeT 46 hH (hy := .inl ⟨by rfl, by (intro w hSw; try obtain ⟨u0, u1, u2, u3, u4, u5, u6, u7, u8, u9, u10, u11, v0⟩ := hSw); (go_simp; try rfl)⟩) (h := ?_)
                simp only [Act.put, List.setIfInBounds_toArray, List.set_cons_zero, List.set_cons_succ]
                refine takeT 47 hH (hy := .inl ⟨by rfl, by (intro w hSw; try obtain ⟨u0, u1, u2, u3, u4, u5, u6, u7, u8, u9, u10, u11, v0⟩ := hSw); (go_simp; try rfl)⟩) (h := ?_)
                simp only [Act.put, List.setIfInBounds_toArray, List.set_cons_zero, List.set_cons_succ]
                refine takeT 48 hH (hy := .inl ⟨by rfl, by (intro w hSw; try obtain ⟨u0, u1, u2, u3, u4, u5, u6, u7, u8, u9, u10, u11, v0⟩ := hSw); (go_simp; try rfl)⟩) (h := ?_)
                simp only [Act.put, List.setIfInBounds_toArray, List.set_cons_zero, List.set_cons_succ]
                refine takeT 49 hH (hy := .inl ⟨by rfl, by (intro w hSw; try obtain ⟨u0, u1, u2, u3, u4, u5, u6, u7, u8, u9, u10, u11, v0⟩ := hSw); (go_simp; try rfl)⟩) (h := ?_)
                simp only [Act.put, List.setIfInBounds_toArray, List.set_cons_zero, List.set_cons_succ]
                refine readyT [50] ?_
                refine consT (fun K hK => ?_) AllReadyH.nil
                go_simp
                go_wp2_with (go_at_call 28; refine (KC.out _ [_] T7).mono ?_; rintro e w8 ⟨rfl, T8⟩)
                clear hH
                refine hK.out _ _ (KbaseA.out _ [_] T8) (fun hH => ?_)
                clear hK K
                refine takeT 51 hH (hy := .inl ⟨by rfl, by (intro w hSw; try obtain ⟨u0, u1, u2, u3, u4, u5, u6, u7, u8, u9, u10, u11, v0⟩ := hSw); (go_simp; try rfl)⟩) (h := ?_)
                simp only [Act.put, List.setIfInBounds_toArray, List.set_cons_zero, List.set_cons_succ]
                refine takeT 52 hH (hy := .inl ⟨by rfl, by (intro w hSw; try obtain ⟨u0, u1, u2, u3, u4, u5, u6, u7, u8, u9, u10, u11, v0⟩ := hSw); (go_simp; try rfl)⟩) (h := ?_)
                simp only [Act.put, List.setIfInBounds_toArray, List.set_cons_zero, List.set_cons_succ]
                refine takeT 53 hH (hy := .inl ⟨by rfl, by (intro w hSw; try obtain ⟨u0, u1, u2, u3, u4, u5, u6, u7, u8, u9, u10, u11, v0⟩ := hSw); (go_simp; try rfl)⟩) (h := ?_)
                simp only [Act.put, List.setIfInBounds_toArray, List.set_cons_zero, List.set_cons_succ]
                refine takeT 54 hH (hy := .inl ⟨by rfl, by (intro w hSw; try obtain ⟨u0, u1, u2, u3, u4, u5, u6, u7, u8, u9, u10, u11, v0⟩ := hSw); (go_simp; try rfl)⟩) (h := ?_)
                simp only [Act.put, List.setIfInBounds_toArray, List.set_cons_zero, List.set_cons_succ]
                refine takeT 56 hH (hy := .inl ⟨by rfl, by (intro w hSw; try obtain ⟨u0, u1, u2, u3, u4, u5, u6, u7, u8, u9, u10, u11, v0⟩ := hSw); (go_simp; try rfl)⟩) (h := ?_)
                simp only [Act.put, List.setIfInBounds_toArray, List.set_cons_zero, List.set_cons_succ]
                refine takeT 57 hH (hy := .inl ⟨by rfl, by (intro w hSw; try obtain ⟨u0, u1, u2, u3, u4, u5, u6, u7, u8, u9, u10, u11, v0⟩ := hSw); (go_simp; try rfl)⟩) (h := ?_)
                simp only [Act.put, List.setIfInBounds_toArray, List.set_cons_zero, List.set_cons_succ]
                refine readyT [55] ?_
                refine consT (fun K hK => ?_) AllReadyH.nil
                go_simp
                go_wp2_with (go_at_call 30; refine (KL.out _ [_] T8).mono ?_; rintro e w9 ⟨rfl, T9⟩)
                clear hH
                refine hK.out _ _ (KbaseA.out _ [_] T9) (fun hH => ?_)
                clear hK K
                refine takeT 58 hH (hy := .inl ⟨by rfl, by (intro w hSw; try obtain ⟨u0, u1, u2, u3, u4, u5, u6, u7, u8, u9, u10, u11, v0⟩ := hSw); (go_simp; try rfl)⟩) (h := ?_)
                simp only [Act.put, List.setIfInBounds_toArray, List.set_cons_zero, List.set_cons_succ]
                refine takeT 59 hH (hy := .inl ⟨by rfl, by (intro w hSw; try obtain ⟨u0, u1, u2, u3, u4, u5, u6, u7, u8, u9, u10, u11, v0⟩ := hSw); (go_simp; try rfl)⟩) (h := ?_)
                simp only [Act.put, List.setIfInBounds_toArray, List.set_cons_zero, List.set_cons_succ]
                refine takeT 60 hH (hy := .inl ⟨by rfl, by (intro w hSw; try obtain ⟨u0, u1, u2, u3, u4, u5, u6, u7, u8, u9, u10, u11, v0⟩ := hSw); (go_simp; try rfl)⟩) (h := ?_)
                simp only [Act.put, List.setIfInBounds_toArray, List.set_cons_zero, List.set_cons_succ]
                refine takeT 61 hH (hy := .inl ⟨by rfl, by (intro w hSw; try obtain ⟨u0, u1, u2, u3, u4, u5, u6, u7, u8, u9, u10, u11, v0⟩ := hSw); (go_simp; try rfl)⟩) (h := ?_)
                simp only [Act.put, List.setIfInBounds_toArray, List.set_cons_zero, List.set_cons_succ]
                refine takeT 62 hH (hy := .inl ⟨by rfl, by (intro w hSw; try obtain ⟨u0, u1, u2, u3, u4, u5, u6, u7, u8, u9, u10, u11, v0⟩ := hSw); (go_simp; try rfl)⟩) (h := ?_)
                simp only [Act.put, List.setIfInBounds_toArray, List.set_cons_zero, List.set_cons_succ]
                refine readyT [63] ?_
                refine consT (fun K hK => ?_) AllReadyH.nil
                go_simp
                go_wp2_with (go_at_call 35; refine (KZ.out _ [_] T9).mono ?_; rintro e w10 ⟨rfl, T10⟩)
                clear hH
                refine hK.out _ _ (KbaseA.out _ [_] T10) (fun hH => ?_)
                clear hK K
                refine takeT 64 hH (hy := .inl ⟨by rfl, by (intro w hSw; try obtain ⟨u0, u1, u2, u3, u4, u5, u6, u7, u8, u9, u10, u11, v0⟩ := hSw); (go_simp; try rfl)⟩) (h := ?_)
                simp only [Act.put, List.setIfInBounds_toArray, List.set_cons_zero, List.set_cons_succ]
                refine takeT 65 hH (hy := .inl ⟨by rfl, by (intro w hSw; try obtain ⟨u0, u1, u2, u3, u4, u5, u6, u7, u8, u9, u10, u11, v0⟩ := hSw); (go_simp; try rfl)⟩) (h := ?_)
                simp only [Act.put, List.setIfInBounds_toArray, List.set_cons_zero, List.set_cons_succ]
                refine takeT 66 hH (hy := .inl ⟨by rfl, by (intro w hSw; try obtain ⟨u0, u1, u2, u3, u4, u5, u6, u7, u8, u9, u10, u11, v0⟩ := hSw); (go_simp; try rfl)⟩) (h := ?_)
                simp only [Act.put, List.setIfInBounds_toArray, List.set_cons_zero, List.set_cons_succ]
                refine wpAnyH_done (by kernel_rfl) ?_ _
                as_aux_lemma =>
                  go_wp2_with fail
                  go_meet
                  exact ⟨rfl, T10.below⟩
            case rest =>
              obtain ⟨rfl, hB⟩ := hcut
              have HB := Lib.hid hB
              clear hB
              go_wp2
              go_ret
              exact ⟨rfl, HB.out⟩
theorem witness_row (os : Os) {H : Type} (enc : TypeId × Value → H) :
    (OpenSpec.ofChange Rows.faultArgsSpec).preRow enc Tryd.prog Tryd.f7 Rows.faultArgsRow.domain false Rows.faultArgsRow.laid ((laidWorld os).forCall (fun _ _ => 0) ⟨#[], #[.agg #[.int .i64 0, .slice none 0 0, .slice none 0 0], .int .i64 0, .agg #[.int .i64 0, .int .i64 0, .string ⟨#[]⟩], .bool false], []⟩).memory #[.agg #[.int .i64 0, .slice none 0 0, .slice none 0 0], .int .i64 0, .agg #[.int .i64 0, .int .i64 0, .string ⟨#[]⟩], .bool false] := by
  have hw : (DataW.whole enc Tryd.prog ((laidWorld os).forCall (fun _ _ => 0) ⟨#[], #[.agg #[.int .i64 0, .slice none 0 0, .slice none 0 0], .int .i64 0, .agg #[.int .i64 0, .int .i64 0, .string ⟨#[]⟩], .bool false], []⟩).memory Tryd.f7.params.toList (OpenSpec.ofChange Rows.faultArgsSpec).vars false #[.agg #[.int .i64 0, .slice none 0 0, .slice none 0 0], .int .i64 0, .agg #[.int .i64 0, .int .i64 0, .string ⟨#[]⟩], .bool false].toList 8).map (fun x => (x.1, x.2.1)) =
      some ([.agg [.lit (.int .i64 0), .nil, .nil], .lit (.int .i64 0), .agg [.lit (.int .i64 0), .lit (.int .i64 0), .lit (.string [])], .lit (.bool false)], []) := by kernel_rfl
  obtain ⟨⟨x1, x2, x3⟩, hx, hx1⟩ := Option.map_eq_some_iff.1 hw
  simp only [Prod.mk.injEq] at hx1
  obtain ⟨rfl, rfl⟩ := hx1
  exact OpenSpec.preRow_of_cond 8 hx (by kernel_rfl) (fun k hk => by cases hk) (by kernel_rfl) (laid_met os _)
set_option maxRecDepth 100000 in
theorem lifted (os : Os) (started : os.Started) (H : Type) (enc : TypeId × Value → H) (F : Stop.Interp) :
    ReturnsInHanded {} Tryd.checked os 7 .any ((OpenSpec.ofChange Rows.faultArgsSpec).preRow enc Tryd.prog Tryd.f7 Rows.faultArgsRow.domain false Rows.faultArgsRow.laid) (((OpenSpec.ofChange Rows.faultArgsSpec).at F).post enc Tryd.prog Tryd.f7 false true false false) := by
  refine law_lift_laid (C := Tryd.checked) own started (by kernel_rfl) Tryd.func7
    (witness_row_atRef (enc := enc) (C := Tryd.checked) false (laidWorld os) #[.agg #[.int .i64 0, .slice none 0 0, .slice none 0 0], .int .i64 0, .agg #[.int .i64 0, .int .i64 0, .string ⟨#[]⟩], .bool false] rfl (by kernel_rfl) (by kernel_rfl) (by kernel_rfl) (witness_row os enc))
    (by kernel_rfl) (by kernel_rfl) rfl (fun ds h => by
      match ds, h with
      | [d1, d2, d3, d4], _ => exact ⟨rfl, rfl, rfl⟩) rfl Tryd.underlying4 ?_
  intro W base args ds ps hval hA hlt hwt hL hsh
  rw [Tryd.params7] at hA hval
  obtain ⟨v0, vs0, d0, ds0, p0, q0, hargs, rfl, rfl, h0, r0⟩ := trodAll_cons hA
  obtain ⟨v1, vs1, d1, ds1, p1, q1, rfl, rfl, rfl, h1, r1⟩ := trodAll_cons r0
  obtain ⟨v2, vs2, d2, ds2, p2, q2, rfl, rfl, rfl, h2, r2⟩ := trodAll_cons r1
  obtain ⟨v3, vs3, d3, ds3, p3, q3, rfl, rfl, rfl, h3, r3⟩ := trodAll_cons r2
  obtain ⟨rfl, rfl, rfl⟩ := trodAll_nil r3
  obtain rfl : args = #[v0, v1, v2, v3] := by cases args; simp_all
  obtain ⟨cs0, rfl, hsz0⟩ := okWide_struct Tryd.underlying46 (hval 0 46 v0 rfl rfl)
  obtain ⟨fuel0, hf0⟩ := h0
  obtain ⟨a, ba, bc, svs, B, ia, ic, I, e0, _, hP⟩ := open_plan (cs := cs0.toList) hf0
  obtain rfl : cs0 = [.int .i64 a, .slice ba svs.length bc, .slice ia I.length ic].toArray := by rw [← e0]
  obtain ⟨i, rfl, rfl, rfl, w1⟩ := open_int Tryd.underlying3 (hval 1 3 v1 rfl rfl) h1
  obtain ⟨cs2, rfl, hsz2⟩ := okWide_struct Tryd.underlying31 (hval 2 31 v2 rfl rfl)
  obtain ⟨fuel2, hf2⟩ := h2
  obtain ⟨y, e2⟩ := val_of_trod (cs := cs2.toList) hf2
  obtain rfl : cs2 = y.cells.toArray := by rw [← e2]
  obtain ⟨has, rfl, rfl, rfl⟩ := open_bool Tryd.underlying4 (hval 3 4 v3 rfl rfl) h3
  exact walk_at W (globF hL hsh) hP a i y has
theorem said : Rows.FaultArgsSaid :=
  OpenClaim.holds_of_cond 7 Tryd.f7 rfl rfl rfl rfl rfl rfl rfl ⟨rfl, rfl, rfl, rfl, rfl⟩ rfl rfl rfl rfl rfl (by kernel_rfl) Tryd.func7 (by kernel_rfl)
    (of_decide_eq_true (by kernel_rfl)) (by unfold Func.isWrapper; first | (rw [if_pos (by decide +kernel)]; kernel_rfl) | (rw [if_neg (by decide +kernel)]; exact ⟨rfl, rfl⟩))
    (fun os started H enc _ F => by rw [OpenClaim.pre_eq_preRow]; exact lifted os started H enc F)
theorem plain (f : FuncId) (fn : Func) (hf : Tryd.pinned.checked.prog.funcNamed "krait/kraitlaw15.FaultArgs" = some f) (hfn : Tryd.pinned.checked.prog.funcs[f]? = some fn) :
    false = Tryd.pinned.checked.prog.looks [] ∧ ∀ (j : Nat) t, fn.params[j]? = some t → Tryd.pinned.checked.prog.wantsStandIn t = false := by
  obtain rfl : f = 7 := Option.some.inj ((show Tryd.prog.funcNamed "krait/kraitlaw15.FaultArgs" = some 7 by kernel_rfl).symm.trans hf) |>.symm
  obtain rfl : fn = Tryd.f7 := (Option.some.inj (Tryd.func7.symm.trans hfn)).symm
  refine ⟨by kernel_rfl, fun j t ht => ?_⟩
  rw [Tryd.params7] at ht
  have hm := Array.mem_of_getElem? ht
  simp at hm
  rcases hm with rfl | rfl | rfl | rfl
  · exact (show Tryd.prog.wantsStandIn 46 = false by kernel_rfl)
  · exact (show Tryd.prog.wantsStandIn 3 = false by kernel_rfl)
  · exact (show Tryd.prog.wantsStandIn 31 = false by kernel_rfl)
  · exact (show Tryd.prog.wantsStandIn 4 = false by kernel_rfl)
theorem proved : Rows.FaultArgsCardSaid :=
  Claim7.holds_tied_plain_at .later [] _ _ _ _ said (fun _ h => by cases h) (by kernel_rfl) (fun _ h => by cases h) faultArgs_row_tie rfl ⟨rfl, rfl⟩ (by kernel_rfl) rfl plain (by kernel_rfl)
#print axioms proved
end Go.Proofs.YtobcnffjfclolaaDoor.faultArgs

