/-
  ObjectHolds: for any classes, and any one of them, the law returns true: an instance holds its class, a class all that it comes of; nothing of these is freed as long as the instance is held; when it is not, all are. No condition.
-/
import Derived.Test.YtkocenlglodklaaShowC
import Derived.Test.YtkocenlglodklaaHoldsM
import Derived.Test.YtkocenlglodklaaMade14
import Derived.Test.YtkocenlglodklaaLocal
import Derived.Test.YtkocenlglodklaaSame11
import Derived.Test.YtkocenlglodklaaIn14
namespace Go.Proofs.Ytkocenlglodklaa.objectHolds
set_option linter.unusedSimpArgs false
open Go.ChangeShapes Go.WideShapes Go.ChangeAt Go.RowKit
open Go.ChangeMaps (open_string)
set_option linter.unusedVariables false
section
variable {w W : World} {Rs : List Res} {h : Nat} {H : HeapM} {out : List V} {c : V}
theorem kh_live (S : Sep w Rs W) (i : Nat) (hi : Rs[i]? = some (heapR h H)) {N : Nat} (G : H.Good N) (hN : N ≤ 4000000) (k : Int) (n : Nat) (hn : H.live k = n) :
    Calls Try.prog 38 #[.pointer (some ⟨h, 0, none⟩), .int .i64 k] W fun e W' => e = .returned (.int .i64 n) ∧ Sep w Rs W' :=
  (S.live i hi G hN k).mono fun e W' ⟨e1, e2, _⟩ => ⟨by rw [e1, hn], e2⟩
theorem kh_ord (S : Sep w Rs W) (i : Nat) (hi : Rs[i]? = some (heapR h H)) {N : Nat} (G : H.Good N) (hN : N ≤ 4000000) (v : V) (L : List V) (hL : H.order v = L) :
    Calls Try.prog 15 #[.pointer (some ⟨h, 0, none⟩), .agg #[.int .i64 v.kind, .int .i64 v.n, .string v.s]] W fun e W' => ∃ a c, e = .returned (.slice a L.length c) ∧ Sep w (valsR (.slice a L.length c) L :: Rs) W' := by
  refine (order_list S i hi G hN v).mono fun e W' ⟨sv, h1, h2⟩ => ?_
  rw [hL] at h2
  obtain ⟨a, c, hsv⟩ := (h2.row 0 rfl).form
  rw [hsv] at h1 h2
  exact ⟨a, c, h1, h2⟩
theorem kh_inst (S : Sep w Rs W) (i : Nat) (hi : Rs[i]? = some (heapR h H)) {N : Nat} (F : H.Fit N) (hN : N + 1 ≤ 4000000) (v : V) (hc : H.isClass v = true) :
    Calls Try.prog 18 #[.pointer (some ⟨h, 0, none⟩), .agg #[.int .i64 v.kind, .int .i64 v.n, .string v.s]] W fun e W' => e = .returned (.tuple #[.agg #[.int .i64 4, .int .i64 (H.last + 1), .string ⟨#[]⟩], .bool true]) ∧ Sep w (Rs.set i (heapR h (instH H v))) W' :=
  instance_ok S i hi F hN v (HeapM.name_le H v) hc
theorem kh_refs (S : Sep w Rs W) (i : Nat) (hi : Rs[i]? = some (heapR h H)) {N : Nat} (G : H.Good N) (hN : N ≤ 4000000) (v : V) (L : List Int) (hL : H.refNs v = L) :
    Calls Try.prog 43 #[.pointer (some ⟨h, 0, none⟩), .agg #[.int .i64 v.kind, .int .i64 v.n, .string v.s]] W fun e W' => ∃ a c, e = .returned (.slice a L.length c) ∧ Sep w (numsR (.slice a L.length c) L :: Rs) W' := by
  refine (S.refs i hi G hN v).mono fun e W' ⟨sv, h1, h2, _⟩ => ?_
  rw [hL] at h2
  obtain ⟨a, c, hsv⟩ := (h2.row 0 rfl).form
  rw [hsv] at h1 h2
  exact ⟨a, c, h1, h2⟩
theorem kh_sweep (S : Sep w Rs W) (i : Nat) (hi : Rs[i]? = some (heapR h H)) {N : Nat} (G : H.Good N) (hN : N ≤ 4000000) (o : V) (q j : Nat) (hj : Rs[j]? = some (valB q o)) (hij : j ≠ i) :
    Calls Try.prog 41 #[.pointer (some ⟨h, 0, none⟩), .slice (some ⟨q, 0, none⟩) 1 1] W fun e W' => ∃ f : Nat, e = .returned (.int .i64 f) ∧ Sep w (Rs.set i (heapR h (H.sweep [o]))) W' :=
  (S.sweep i hi G hN _ [o] (seesV_one o rfl rfl rfl (S.box j hj)) (ArgS.box j hij hj) (by simp)).mono fun e W' ⟨⟨f, e1, _⟩, e2⟩ => ⟨f, e1, e2⟩
theorem kh_sweep0 (S : Sep w Rs W) (i : Nat) (hi : Rs[i]? = some (heapR h H)) {N : Nat} (G : H.Good N) (hN : N ≤ 4000000) :
    Calls Try.prog 41 #[.pointer (some ⟨h, 0, none⟩), .slice none 0 0] W fun e W' => ∃ f : Nat, e = .returned (.int .i64 f) ∧ Sep w (Rs.set i (heapR h (H.sweep []))) W' :=
  (S.sweep i hi G hN _ [] (seesV_nil W) ArgS.nil (by simp)).mono fun e W' ⟨⟨f, e1, _⟩, e2⟩ => ⟨f, e1, e2⟩
end
set_option maxRecDepth 100000 in
set_option maxHeartbeats 12800000 in
theorem walk (w : World) (sB sH : Value) (B : SomeIn w sB sH) (wh : Int) :
    Calls Try.prog 10 #[.agg #[sB, sH], .int .i64 wh] w fun e W' => e = .returned (.bool true) ∧ Below w.heap.size w W' := by
  obtain ⟨b, hb⟩ : ∃ gx_, (w.heap.size) = gx_ := ⟨_, rfl⟩
  have S := (Sep.start (Below.refl w.heap.size w)).alloc (.cells #[sB, sH] 25)
  rw [hb] at S
  replace S : Sep w (boxR b (.cells #[sB, sH] 25) :: []) _ := S
  have M0 := Lib.hid ((shown_ok (w.alloc (.cells #[sB, sH] 25))).mono fun e W1 (hh : _ ∧ _) => (⟨hh.1, S.later hh.2⟩ : _ ∧ Sep w (boxR b (.cells #[sB, sH] 25) :: []) W1))
  clear S
  go_enter Try.func10, Try.ntmps10
  go_wp2_with fail
  try simp only [hb]
  refine M0.out.mono ?_
  rintro e w1 ⟨rfl, S⟩
  clear M0 hb
  have d0 := cellAt (S.box (b := b) 0 rfl) 0 (v := sB) rfl
  have d1 := cellAt (S.box (b := b) 0 rfl) 1 (v := sH) rfl
  have MM := Lib.hid (B.made S)
  clear S
  go_wp2_with fail
  refine MM.out.mono ?_
  rintro e w2 ⟨h, oa, oc, H, out, rfl, M, S⟩
  clear MM B d0 d1
  replace S : Sep w (valsR (.slice oa out.length oc) out :: heapR h H :: boxR b (.cells #[sB, sH] 25) :: []) _ := S
  by_cases hl : out = []
  · have hl0 : out.length = 0 := by rw [hl]; rfl
    replace S := Lib.hid S.below
    rw [hl0]
    clear M hl hl0
    go_wp2
    go_ret
    exact ⟨rfl, S.out⟩
  have hl1 : ¬ out.length = 0 := fun e => hl (List.length_eq_zero_iff.1 e)
  have hl2 : ((out.length : Int) == 0) = false := by simp; exact hl
  have hmem := M.mem _ (pickV_mem hl wh)
  have C := pick_ok w2 _ out wh (S.row 0 rfl).sees'
  obtain ⟨c, hc⟩ : ∃ gx_, (pickV out wh) = gx_ := ⟨_, rfl⟩
  rw [hc] at hmem C
  have MM := Lib.hid (And.intro M hmem)
  have M1 := Lib.hid (C.mono fun e W1 (hh : _ ∧ _) => (⟨hh.1, S.later hh.2⟩ : _ ∧ Sep w (valsR (.slice oa out.length oc) out :: heapR h H :: boxR b (.cells #[sB, sH] 25) :: []) W1))
  simp only [V.val] at M1
  clear S C hc hmem M hl
  go_wp2_with fail
  refine M1.out.mono ?_
  rintro e w3 ⟨rfl, S⟩
  clear M1 hl1 hl2
  obtain ⟨x8, hx8⟩ : ∃ gx_, (w3.heap.size) = gx_ := ⟨_, rfl⟩
  replace S := (S.alloc (.cells #[.int .i64 c.kind, .int .i64 c.n, .string c.s] 33))
  simp only [World.size_alloc, hx8] at S
  replace S : Sep w (boxR x8 (.cells #[.int .i64 c.kind, .int .i64 c.n, .string c.s] 33) :: valsR (.slice oa out.length oc) out :: heapR h H :: boxR b (.cells #[sB, sH] 25) :: []) _ := S
  obtain ⟨L, hLL⟩ : ∃ gx_, (H.order c) = gx_ := ⟨_, rfl⟩
  have HL := Lib.hid hLL
  have hL9 : (L.length : Int) ≤ 1000 := by
    have := HeapM.ordN_len MM.out.1.fit.G c
    unfold HeapM.ordN at this
    rw [List.length_map, hLL] at this; omega
  clear hLL
  have d0 := cellAt (S.box (b := x8) 0 rfl) 0 (v := .int .i64 c.kind) rfl
  have d1 := cellAt (S.box (b := x8) 0 rfl) 1 (v := .int .i64 c.n) rfl
  have d2 := cellAt (S.box (b := x8) 0 rfl) 2 (v := .string c.s) rfl
  have M := Lib.hid (kh_ord S 2 rfl MM.out.1.fit.G (by omega) c L HL.out)
  clear S
  go_wp2_with fail
  try simp only [hx8]
  refine M.out.mono ?_
  rintro e w4 ⟨la, lc, rfl, S⟩
  clear M d0 d1 d2 hx8
  replace S : Sep w (valsR (.slice la L.length lc) L :: boxR x8 (.cells #[.int .i64 c.kind, .int .i64 c.n, .string c.s] 33) :: valsR (.slice oa out.length oc) out :: heapR h H :: boxR b (.cells #[sB, sH] 25) :: []) _ := S
  have d0 := cellAt (S.box (b := x8) 1 rfl) 0 (v := .int .i64 c.kind) rfl
  have d1 := cellAt (S.box (b := x8) 1 rfl) 1 (v := .int .i64 c.n) rfl
  have d2 := cellAt (S.box (b := x8) 1 rfl) 2 (v := .string c.s) rfl
  have M := Lib.hid (kh_inst S 3 rfl MM.out.1.fit (by omega) c MM.out.2.1)
  clear S
  go_wp2_with fail
  refine M.out.mono ?_
  rintro e w5 ⟨rfl, S⟩
  clear M d0 d1 d2
  replace S : Sep w (valsR (.slice la L.length lc) L :: boxR x8 (.cells #[.int .i64 c.kind, .int .i64 c.n, .string c.s] 33) :: valsR (.slice oa out.length oc) out :: heapR h (instH H c) :: boxR b (.cells #[sB, sH] 25) :: []) _ := S
  have hn : okI (H.last + 1) := okI_of (by have := MM.out.1.last; omega)
  obtain ⟨r, hr⟩ : ∃ r, r = V.ref (H.last + 1) hn := ⟨_, rfl⟩
  have e1 : Value.agg #[.int .i64 4, .int .i64 (H.last + 1), .string ⟨#[]⟩] = .agg #[.int .i64 r.kind, .int .i64 r.n, .string r.s] := by rw [hr]; rfl
  rw [e1]
  have FT := Lib.hid (MM.out.1.fit.G.add (instO (H.name c) (HeapM.name_le H c) c))
  have P1 := Lib.hid (inst_live MM.out.1 MM.out.2.1 MM.out.2.2 hn)
  have P2 := Lib.hid (inst_order MM.out.1 MM.out.2.1 MM.out.2.2 hn)
  have P3 := Lib.hid (inst_refs MM.out.1 MM.out.2.1 MM.out.2.2 hn)
  have P4 := Lib.hid (inst_end MM.out.1 MM.out.2.1 MM.out.2.2 hn)
  rw [← hr, HL.out] at P1 P2
  rw [← hr] at P3 P4
  clear hr e1 hn
  obtain ⟨x10, hx10⟩ : ∃ gx_, (w5.heap.size) = gx_ := ⟨_, rfl⟩
  replace S := (S.alloc (.cells #[.int .i64 r.kind, .int .i64 r.n, .string r.s] 33))
  simp only [World.size_alloc, hx10] at S
  replace S : Sep w (boxR x10 (.cells #[.int .i64 r.kind, .int .i64 r.n, .string r.s] 33) :: valsR (.slice la L.length lc) L :: boxR x8 (.cells #[.int .i64 c.kind, .int .i64 c.n, .string c.s] 33) :: valsR (.slice oa out.length oc) out :: heapR h (instH H c) :: boxR b (.cells #[sB, sH] 25) :: []) _ := S
  have S2 := S.alloc (.cells #[.int .i64 r.kind, .int .i64 r.n, .string r.s] 33)
  simp only [World.size_alloc, hx10] at S2
  replace S2 : Sep w (boxR (x10 + 1) (.cells #[.int .i64 r.kind, .int .i64 r.n, .string r.s] 33) :: boxR x10 (.cells #[.int .i64 r.kind, .int .i64 r.n, .string r.s] 33) :: valsR (.slice la L.length lc) L :: boxR x8 (.cells #[.int .i64 c.kind, .int .i64 c.n, .string c.s] 33) :: valsR (.slice oa out.length oc) out :: heapR h (instH H c) :: boxR b (.cells #[sB, sH] 25) :: []) _ := S2
  have d0 := cellAt (S.box (b := x10) 0 rfl) 0 (v := .int .i64 r.kind) rfl
  have d1 := cellAt (S.box (b := x10) 0 rfl) 1 (v := .int .i64 r.n) rfl
  have d2 := cellAt (S.box (b := x10) 0 rfl) 2 (v := .string r.s) rfl
  have M1 := Lib.hid (kh_sweep S2 5 rfl FT.out (by simp [ObjM.vals, instO]) r _ 0 rfl (by decide))
  clear S S2
  go_wp2_with fail
  try simp only [hx10]
  refine M1.out.mono ?_
  rintro e w6 ⟨fr, rfl, S⟩
  clear M1 d0 d1 d2 hx10
  replace S := S.tail
  obtain ⟨H2, hH2⟩ : ∃ gx_, ((instH H c).sweep [r]) = gx_ := ⟨_, rfl⟩
  replace S : Sep w (boxR x10 (.cells #[.int .i64 r.kind, .int .i64 r.n, .string r.s] 33) :: valsR (.slice la L.length lc) L :: boxR x8 (.cells #[.int .i64 c.kind, .int .i64 c.n, .string c.s] 33) :: valsR (.slice oa out.length oc) out :: heapR h H2 :: boxR b (.cells #[sB, sH] 25) :: []) w6 := by rw [← hH2]; exact S
  have G2 : Hid (H2.Good _) := Lib.hid (by rw [← hH2]; exact FT.out.sweep [r])
  rw [hH2] at P1 P2 P3 P4
  clear hH2
  have M := Lib.hid (kh_live S 4 rfl G2.out (by simp [ObjM.vals, instO]) 5 L.length P1.out.1)
  clear S
  go_wp2_with fail
  refine M.out.mono ?_
  rintro e w7 ⟨rfl, S⟩
  clear M
  replace S : Sep w (boxR x10 (.cells #[.int .i64 r.kind, .int .i64 r.n, .string r.s] 33) :: valsR (.slice la L.length lc) L :: boxR x8 (.cells #[.int .i64 c.kind, .int .i64 c.n, .string c.s] 33) :: valsR (.slice oa out.length oc) out :: heapR h H2 :: boxR b (.cells #[sB, sH] 25) :: []) _ := S
  have M := Lib.hid (kh_live S 4 rfl G2.out (by simp [ObjM.vals, instO]) 0 (L.length + 1) P1.out.2)
  clear S
  go_wp2_with fail
  refine M.out.mono ?_
  rintro e w8 ⟨rfl, S⟩
  clear M
  replace S : Sep w (boxR x10 (.cells #[.int .i64 r.kind, .int .i64 r.n, .string r.s] 33) :: valsR (.slice la L.length lc) L :: boxR x8 (.cells #[.int .i64 c.kind, .int .i64 c.n, .string c.s] 33) :: valsR (.slice oa out.length oc) out :: heapR h H2 :: boxR b (.cells #[sB, sH] 25) :: []) _ := S
  obtain ⟨baseA, hbaseA⟩ : ∃ base, base = boxR x10 (.cells #[.int .i64 r.kind, .int .i64 r.n, .string r.s] 33) :: valsR (.slice la L.length lc) L :: boxR x8 (.cells #[.int .i64 c.kind, .int .i64 c.n, .string c.s] 33) :: valsR (.slice oa out.length oc) out :: heapR h H2 :: boxR b (.cells #[sB, sH] 25) :: [] := ⟨_, rfl⟩
  have HbaseA := Lib.hid hbaseA
  have KbaseA : Hid (∀ W (Q : List Res), Sep w (Q ++ baseA) W → W.cell? ⟨x8, 0, none⟩ = some (.int .i64 c.kind) ∧ W.cell? ⟨x8, 1, none⟩ = some (.int .i64 c.n) ∧ W.cell? ⟨x8, 2, none⟩ = some (.string c.s) ∧ W.cell? ⟨x10, 0, none⟩ = some (.int .i64 r.kind) ∧ W.cell? ⟨x10, 1, none⟩ = some (.int .i64 r.n) ∧ W.cell? ⟨x10, 2, none⟩ = some (.string r.s)) := Lib.hid fun W Q T => by
    rw [hbaseA] at T
    have i0 := T.box (b := x8) (o := .cells #[.int .i64 c.kind, .int .i64 c.n, .string c.s] 33) (Q.length + 2) (by rw [List.getElem?_append_right (by omega), Nat.add_sub_cancel_left]; rfl)
    have i1 := T.box (b := x10) (o := .cells #[.int .i64 r.kind, .int .i64 r.n, .string r.s] 33) (Q.length + 0) (by rw [List.getElem?_append_right (by omega), Nat.add_sub_cancel_left]; rfl)
    exact ⟨cellAt i0 0 rfl, cellAt i0 1 rfl, cellAt i0 2 rfl, cellAt i1 0 rfl, cellAt i1 1 rfl, cellAt i1 2 rfl⟩
  have KO : Hid (∀ W (Q : List Res), Sep w (Q ++ baseA) W → Calls Try.prog 15 #[.pointer (some ⟨h, 0, none⟩), .agg #[.int .i64 c.kind, .int .i64 c.n, .string c.s]] W fun e W' => ∃ a c, e = .returned (.slice a L.length c) ∧ Sep w (valsR (.slice a L.length c) L :: (Q ++ baseA)) W') := Lib.hid fun W Q T => by
    rw [HbaseA.out] at T ⊢
    exact kh_ord T (Q.length + 4) (by rw [List.getElem?_append_right (by omega), Nat.add_sub_cancel_left]; rfl) G2.out (by simp [ObjM.vals, instO]) c L P2.out
  have KS : Hid (∀ W a cc, Sep w (valsR (.slice a L.length cc) L :: baseA) W → Calls Try.prog 25 #[.slice a L.length cc, .slice la L.length lc] W fun e W' => e = .returned (.bool true) ∧ Sep w (valsR (.slice a L.length cc) L :: baseA) W') := Lib.hid fun W a cc T => by
    have T2 := T
    rw [HbaseA.out] at T2
    refine (same_vals W _ _ L L (T2.row 0 rfl).sees' (T2.row 2 rfl).sees').mono fun e W' ⟨e1, n, e2⟩ => ⟨by rw [e1]; simp, by rw [e2]; exact T.drewN n⟩
  have KR : Hid (∀ W (Q : List Res), Sep w (Q ++ baseA) W → Calls Try.prog 43 #[.pointer (some ⟨h, 0, none⟩), .agg #[.int .i64 r.kind, .int .i64 r.n, .string r.s]] W fun e W' => ∃ a cc, e = .returned (.slice a 1 cc) ∧ Sep w (numsR (.slice a 1 cc) [c.n] :: (Q ++ baseA)) W') := Lib.hid fun W Q T => by
    rw [HbaseA.out] at T ⊢
    exact kh_refs T (Q.length + 4) (by rw [List.getElem?_append_right (by omega), Nat.add_sub_cancel_left]; rfl) G2.out (by simp [ObjM.vals, instO]) r [c.n] P3.out
  have KQ : Hid (∀ W (Q : List Res) (a : Option Addr) (cc q i j : Nat), Q[i]? = some (numsR (.slice a 1 cc) [c.n]) → Q[j]? = some (boxR q (.cells #[.int .i64 c.n] 2)) → Sep w (Q ++ baseA) W → Calls Try.prog 42 #[.slice a 1 cc, .slice (some ⟨q, 0, none⟩) 1 1] W fun e W' => e = .returned (.bool true) ∧ Sep w (Q ++ baseA) W') := Lib.hid fun W Q a cc q i j hi hj T => by
    have r1 := SeesN.of_slIs (T.row i (by rw [List.getElem?_append_left (List.getElem?_eq_some_iff.1 hi).1]; exact hi))
    have r2 := T.box j (by rw [List.getElem?_append_left (List.getElem?_eq_some_iff.1 hj).1]; exact hj)
    have r3 : SeesN W (.slice (some ⟨q, 0, none⟩) 1 1) [c.n] := by
      refine ⟨_, 1, rfl, by simp, by simp [maxLen], .inr ⟨q, 0, rfl, fun i x hx => ?_⟩⟩
      match i, hx with
      | 0, hx => simp at hx; subst hx; exact cellAt r2 0 rfl
      | i + 1, hx => simp at hx
    refine (same11_ok W _ _ [c.n] [c.n] r1 r3 ⟨fun n hn => by simp at hn; subst hn; exact c.hn, fun n hn => by simp at hn; subst hn; exact c.hn⟩).mono fun e W' ⟨e1, n, e2⟩ => ⟨by rw [e1]; simp, by rw [e2]; exact T.drewN n⟩
  replace S : Sep w baseA w8 := by rw [hbaseA]; exact S
  replace S := Lib.hid S
  clear hbaseA
  go_upto_region 11 with fail
  go_cut [74] from 12 (fun s74 wx => s74 = .bool false ∧ Sep w baseA wx)
  case first =>
    have T0 : Sep w ([] ++ baseA) _ := S.out.drew
    clear S
    as_aux_lemma =>
      refine wp_region_held_drew (S := fun W => W.cell? ⟨x8, 0, none⟩ = some (.int .i64 c.kind) ∧ W.cell? ⟨x8, 1, none⟩ = some (.int .i64 c.n) ∧ W.cell? ⟨x8, 2, none⟩ = some (.string c.s) ∧ W.cell? ⟨x10, 0, none⟩ = some (.int .i64 r.kind) ∧ W.cell? ⟨x10, 1, none⟩ = some (.int .i64 r.n) ∧ W.cell? ⟨x10, 2, none⟩ = some (.string r.s)) (by kernel_rfl) (KbaseA.out _ [] T0) (fun hH => ?_)
      refine takeT 0 hH (hy := .inl ⟨by rfl, by (intro w hSw; try obtain ⟨u0, u1, u2, u3, u4, u5⟩ := hSw); (go_simp; try rfl)⟩) (h := ?_)
      simp only [Act.put, List.setIfInBounds_toArray, List.set_cons_zero, List.set_cons_succ]
      refine takeT 1 hH (hy := .inl ⟨by rfl, by (intro w hSw; try obtain ⟨u0, u1, u2, u3, u4, u5⟩ := hSw); (go_simp; try rfl)⟩) (h := ?_)
      simp only [Act.put, List.setIfInBounds_toArray, List.set_cons_zero, List.set_cons_succ]
      refine takeT 3 hH (hy := .inl ⟨by rfl, by (intro w hSw; try obtain ⟨u0, u1, u2, u3, u4, u5⟩ := hSw); (go_simp; try rfl)⟩) (h := ?_)
      simp only [Act.put, List.setIfInBounds_toArray, List.set_cons_zero, List.set_cons_succ]
      refine readyT [2] ?_
      refine consT (fun K hK => ?_) AllReadyH.nil
      go_simp
      go_wp2_with (go_at_call 15; refine (KO.out _ [] T0).mono ?_; rintro e w1 ⟨va, vc, rfl, T1⟩)
      clear hH
      refine hK.out _ _ (KbaseA.out _ [_] T1) (fun hH => ?_)
      clear hK K
      refine readyT [4] ?_
      refine consT (fun K hK => ?_) AllReadyH.nil
      go_simp
      go_wp2_with (go_at_call 25; refine (KS.out _ _ _ T1).mono ?_; rintro e w2 ⟨rfl, T2⟩)
      clear hH
      refine hK.out _ _ (KbaseA.out _ [_] T2) (fun hH => ?_)
      clear hK K
      refine takeT 5 hH (hy := .inl ⟨by rfl, by (intro w hSw; try obtain ⟨u0, u1, u2, u3, u4, u5⟩ := hSw); (go_simp; try rfl)⟩) (h := ?_)
      simp only [Act.put, List.setIfInBounds_toArray, List.set_cons_zero, List.set_cons_succ]
      refine takeT 6 hH (hy := .inl ⟨by rfl, by (intro w hSw; try obtain ⟨u0, u1, u2, u3, u4, u5⟩ := hSw); (go_simp; try rfl)⟩) (h := ?_)
      simp only [Act.put, List.setIfInBounds_toArray, List.set_cons_zero, List.set_cons_succ]
      refine takeT 7 hH (hy := .inl ⟨by rfl, by (intro w hSw; try obtain ⟨u0, u1, u2, u3, u4, u5⟩ := hSw); (go_simp; try rfl)⟩) (h := ?_)
      simp only [Act.put, List.setIfInBounds_toArray, List.set_cons_zero, List.set_cons_succ]
      refine takeT 8 hH (hy := .inl ⟨by rfl, by (intro w hSw; try obtain ⟨u0, u1, u2, u3, u4, u5⟩ := hSw); (go_simp; try rfl)⟩) (h := ?_)
      simp only [Act.put, List.setIfInBounds_toArray, List.set_cons_zero, List.set_cons_succ]
      refine takeT 10 hH (hy := .inl ⟨by rfl, by (intro w hSw; try obtain ⟨u0, u1, u2, u3, u4, u5⟩ := hSw); (go_simp; try rfl)⟩) (h := ?_)
      simp only [Act.put, List.setIfInBounds_toArray, List.set_cons_zero, List.set_cons_succ]
      refine takeT 11 hH (hy := .inl ⟨by rfl, by (intro w hSw; try obtain ⟨u0, u1, u2, u3, u4, u5⟩ := hSw); (go_simp; try rfl)⟩) (h := ?_)
      simp only [Act.put, List.setIfInBounds_toArray, List.set_cons_zero, List.set_cons_succ]
      refine readyT [9, 12] ?_
      refine consT (fun K hK => ?_) (consT (fun K hK => ?_) AllReadyH.nil)
      · go_simp
        go_wp2_with (go_at_call 43; refine (KR.out _ [_] T2).mono ?_; rintro e w3 ⟨ra, rc, rfl, T3⟩)
        clear hH
        refine hK.out _ _ (KbaseA.out _ [_, _] T3) (fun hH => ?_)
        clear hK K
        refine readyT [12] ?_
        refine consT (fun K hK => ?_) AllReadyH.nil
        go_simp
        have T4 : Sep w ([boxR _ (.cells #[.int .i64 c.n] 2), numsR (.slice ra 1 rc) [c.n], valsR (.slice va L.length vc) L] ++ baseA) _ := Sep.alloc T3 (.cells #[.int .i64 c.n] 2)
        try simp only [size_drew, World.size_alloc] at T4
        clear hH
        refine hK.out _ _ (KbaseA.out _ [_, _, _] T4) (fun hH => ?_)
        clear hK K
        refine readyT [13] ?_
        refine consT (fun K hK => ?_) AllReadyH.nil
        go_simp
        go_wp2_with (go_at_call 42; refine (KQ.out _ [_, _, _] _ _ _ 1 0 rfl rfl T4).mono ?_; rintro e w5 ⟨rfl, T5⟩)
        clear hH
        refine hK.out _ _ (KbaseA.out _ [_, _, _] T5) (fun hH => ?_)
        clear hK K
        refine takeT 14 hH (hy := .inl ⟨by rfl, by (intro w hSw; try obtain ⟨u0, u1, u2, u3, u4, u5⟩ := hSw); (go_simp; try rfl)⟩) (h := ?_)
        simp only [Act.put, List.setIfInBounds_toArray, List.set_cons_zero, List.set_cons_succ]
        refine takeT 15 hH (hy := .inl ⟨by rfl, by (intro w hSw; try obtain ⟨u0, u1, u2, u3, u4, u5⟩ := hSw); (go_simp; try rfl)⟩) (h := ?_)
        simp only [Act.put, List.setIfInBounds_toArray, List.set_cons_zero, List.set_cons_succ]
        refine wpAnyH_done (by kernel_rfl) ?_ _
        as_aux_lemma =>
          go_wp2_with fail
          go_meet
          exact ⟨rfl, T5.sub (List.sublist_append_right [_, _, _] _)⟩
      · go_simp
        have T6 : Sep w ([boxR _ (.cells #[.int .i64 c.n] 2), valsR (.slice va L.length vc) L] ++ baseA) _ := Sep.alloc T2 (.cells #[.int .i64 c.n] 2)
        try simp only [size_drew, World.size_alloc] at T6
        clear hH
        refine hK.out _ _ (KbaseA.out _ [_, _] T6) (fun hH => ?_)
        clear hK K
        refine readyT [9] ?_
        refine consT (fun K hK => ?_) AllReadyH.nil
        go_simp
        go_wp2_with (go_at_call 43; refine (KR.out _ [_, _] T6).mono ?_; rintro e w7 ⟨ra, rc, rfl, T7⟩)
        clear hH
        refine hK.out _ _ (KbaseA.out _ [_, _, _] T7) (fun hH => ?_)
        clear hK K
        refine readyT [13] ?_
        refine consT (fun K hK => ?_) AllReadyH.nil
        go_simp
        go_wp2_with (go_at_call 42; refine (KQ.out _ [_, _, _] _ _ _ 0 1 rfl rfl T7).mono ?_; rintro e w8 ⟨rfl, T8⟩)
        clear hH
        refine hK.out _ _ (KbaseA.out _ [_, _, _] T8) (fun hH => ?_)
        clear hK K
        refine takeT 14 hH (hy := .inl ⟨by rfl, by (intro w hSw; try obtain ⟨u0, u1, u2, u3, u4, u5⟩ := hSw); (go_simp; try rfl)⟩) (h := ?_)
        simp only [Act.put, List.setIfInBounds_toArray, List.set_cons_zero, List.set_cons_succ]
        refine takeT 15 hH (hy := .inl ⟨by rfl, by (intro w hSw; try obtain ⟨u0, u1, u2, u3, u4, u5⟩ := hSw); (go_simp; try rfl)⟩) (h := ?_)
        simp only [Act.put, List.setIfInBounds_toArray, List.set_cons_zero, List.set_cons_succ]
        refine wpAnyH_done (by kernel_rfl) ?_ _
        as_aux_lemma =>
          go_wp2_with fail
          go_meet
          exact ⟨rfl, T8.sub (List.sublist_append_right [_, _, _] _)⟩
  case rest =>
    obtain ⟨rfl, S⟩ := hcut
    rw [HbaseA.out] at S
    clear KO KS KR KQ KbaseA
    have M := Lib.hid (kh_sweep0 S 4 rfl G2.out (by simp [ObjM.vals, instO]))
    clear S
    go_wp2_with fail
    refine M.out.mono ?_
    rintro e w9 ⟨fr2, rfl, S⟩
    clear M
    have Q0 : (H2.sweep []).live 0 = 0 := by unfold HeapM.live; rw [P4.out]; rfl
    have Q1 : (H2.sweep []).order c = [] := by
      refine order_no ?_
      unfold HeapM.isClass HeapM.kind HeapM.of
      rw [P4.out]
      split <;> simp [getL]
    obtain ⟨H3, hH3⟩ : ∃ gx_, (H2.sweep []) = gx_ := ⟨_, rfl⟩
    replace S : Sep w (boxR x10 (.cells #[.int .i64 r.kind, .int .i64 r.n, .string r.s] 33) :: valsR (.slice la L.length lc) L :: boxR x8 (.cells #[.int .i64 c.kind, .int .i64 c.n, .string c.s] 33) :: valsR (.slice oa out.length oc) out :: heapR h H3 :: boxR b (.cells #[sB, sH] 25) :: []) w9 := by rw [← hH3]; exact S
    have G3 : Hid (H3.Good _) := Lib.hid (by rw [← hH3]; exact G2.out.sweep [])
    rw [hH3] at Q0 Q1
    have HQ := Lib.hid (And.intro Q0 Q1)
    clear hH3 Q0 Q1
    have M := Lib.hid (kh_live S 4 rfl G3.out (by simp [ObjM.vals, instO]) 0 0 HQ.out.1)
    clear S
    go_wp2_with fail
    refine M.out.mono ?_
    rintro e w10 ⟨rfl, S⟩
    clear M
    replace S : Sep w (boxR x10 (.cells #[.int .i64 r.kind, .int .i64 r.n, .string r.s] 33) :: valsR (.slice la L.length lc) L :: boxR x8 (.cells #[.int .i64 c.kind, .int .i64 c.n, .string c.s] 33) :: valsR (.slice oa out.length oc) out :: heapR h H3 :: boxR b (.cells #[sB, sH] 25) :: []) _ := S
    have d0 := cellAt (S.box (b := x8) 2 rfl) 0 (v := .int .i64 c.kind) rfl
    have d1 := cellAt (S.box (b := x8) 2 rfl) 1 (v := .int .i64 c.n) rfl
    have d2 := cellAt (S.box (b := x8) 2 rfl) 2 (v := .string c.s) rfl
    have M := Lib.hid (kh_ord S 4 rfl G3.out (by simp [ObjM.vals, instO]) c [] HQ.out.2)
    clear S
    go_wp2_with fail
    refine M.out.mono ?_
    rintro e w11 ⟨va, vc, rfl, S⟩
    clear M d0 d1 d2
    replace S := Lib.hid S.below
    simp only [List.length_nil]
    go_wp2
    go_ret
    exact ⟨rfl, S.out⟩
set_option maxRecDepth 100000 in
theorem lifted (os : Os) (started : os.Started) (H : Type) (enc : TypeId × Value → H) :
    ReturnsInHanded {} Try.checked os 10 .any (Rows.objectHoldsSpec.pre6 enc Try.prog Try.f10 Rows.objectHoldsRow.domain false) (Rows.objectHoldsSpec.post enc Try.prog Try.f10 false true false false) := by
  refine law_lift (C := Try.checked) own started (by kernel_rfl) Try.func10
    (ChangeSpec.witness6 (enc := enc) (C := Try.checked) false ⟨#[], #[.agg #[.slice none 0 0, .slice none 0 0], .int .i64 0], []⟩ 8 (by kernel_rfl) (by kernel_rfl) (by kernel_rfl) (by kernel_rfl))
    (by kernel_rfl) (by kernel_rfl) rfl (fun ds h => by
      match ds, h with
      | [d1, d2], _ => exact ⟨rfl, rfl, rfl⟩) rfl Try.underlying4 ?_
  intro W base args ds ps hval hA hlt hwt hsh
  rw [Try.params10] at hA hval
  obtain ⟨v0, vs0, d0, ds0, p0, q0, hargs, rfl, rfl, h0, r0⟩ := trodAll_cons hA
  obtain ⟨v1, vs1, d1, ds1, p1, q1, rfl, rfl, rfl, h1, r1⟩ := trodAll_cons r0
  obtain ⟨rfl, rfl, rfl⟩ := trodAll_nil r1
  obtain rfl : args = #[v0, v1] := by cases args; simp_all
  obtain ⟨cs0, rfl, hsz0⟩ := okWide_struct Try.underlying25 (hval 0 25 v0 rfl rfl)
  obtain ⟨fuel0, hf0⟩ := h0
  obtain ⟨sB0, sH0, e0, sI0⟩ := open_some (cs := cs0.toList) hf0
  obtain rfl : cs0 = [sB0, sH0].toArray := by rw [← e0]
  obtain ⟨a1, rfl, rfl, rfl, w1⟩ := open_int Try.underlying3 (hval 1 3 v1 rfl rfl) h1
  -- WALK
  exact walk W _ _ sI0 a1
theorem proved : Rows.ObjectHoldsSaid :=
  OpenClaim.holds_of_wide 10 Try.f10 rfl rfl rfl rfl rfl rfl rfl ⟨rfl, rfl, rfl, rfl, rfl⟩ rfl rfl rfl rfl rfl (by kernel_rfl) Try.func10 (by kernel_rfl)
    (of_decide_eq_true (by kernel_rfl)) (by unfold Func.isWrapper; first | (rw [if_pos (by decide +kernel)]; kernel_rfl) | (rw [if_neg (by decide +kernel)]; exact ⟨rfl, rfl⟩))
    (fun os started H enc _ => lifted os started H enc)
#print axioms proved
end Go.Proofs.Ytkocenlglodklaa.objectHolds
