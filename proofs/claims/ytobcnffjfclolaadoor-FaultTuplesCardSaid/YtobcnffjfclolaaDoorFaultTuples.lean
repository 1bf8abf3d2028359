/-
  FaultTuples: for any plan (of a size that is looked at) the law returns true: a tuple matches just if one of its items does, and is refused if one of them is. No condition.
-/
import Derived.Test.YtobcnffjfclolaaDoorFaultT
import Derived.Test.YtobcnffjfclolaaDoorFaultP
import Derived.Test.YtobcnffjfclolaaDoorRegI
import Derived.Test.YtobcnffjfclolaaDoorLaid
namespace Go.Proofs.YtobcnffjfclolaaDoor.faultTuples
set_option linter.unusedSimpArgs false
open Go.ChangeShapes Go.WideShapes Go.ChangeAt Go.RowKit
set_option linter.unusedVariables false
section
variable {w W : World} {Rs : List Res} {h : Nat} {H : HeapM}
theorem kind_or {H : HeapM} {x : V} (h : H.ClsOr x) : H.kind x = 5 ∨ H.kind x = 6 := by
  rcases h.2 with h | ⟨c, h, _⟩
  · exact .inl (kind_cls h)
  · right
    unfold HeapM.ofM at h
    by_cases hk : H.kind x = 6 ∧ H.isClass ((H.at x 0).getD V.zero) = true
    · exact hk.1
    · rw [if_neg hk] at h; cases h
theorem some_or {H : HeapM} {x : V} (h : H.ClsOr x) : (H.of x).isSome = true := by
  rcases kind_or h with h | h
  · exact kind_some h (by decide)
  · exact kind_some h (by decide)
theorem of_or {H H' : HeapM} (K : Olds H H') {x : V} (h : H.ClsOr x) : H'.ofM x = H.ofM x := by
  have hk := (K.kind (some_or h)).1
  rcases h.2 with h2 | ⟨c, h2, _⟩
  · have h5 := kind_cls h2
    unfold HeapM.ofM
    rw [if_neg (by rw [hk, h5]; simp), if_neg (by rw [h5]; simp)]
  · rw [K.ofM h2, h2]
theorem one_match {H : HeapM} {x : V} (h : H.ClsOr x) (bn v : V) : H.matchF bn v x = if H.isClsF bn x = true then some (H.hitF bn v x) else none := by
  have hc : H.candsF x = [x] := by
    unfold HeapM.candsF
    rcases kind_or h with h | h <;> rw [h, if_neg (by decide)]
  unfold HeapM.matchF
  rw [hc]
  simp
theorem tup_match {l : List V} {L : Int} (C : LaidC H l L) {v : V} (hv : H.ClsOr v) (xs : List V) (hxs : ∀ x ∈ xs, H.ClsOr x) (ht : okI (H.last + 1)) (hb : okI (L + 19)) :
    (H.add (tupleO xs)).matchF (V.ref (L + 19) hb) v (V.ref (H.last + 1) ht) = if xs.all (H.isClsF (V.ref (L + 19) hb)) = true then some (xs.any (H.hitF (V.ref (L + 19) hb) v)) else none := by
  have hrg := C.rng
  have hof := add_of_new C.fit.G (tupleO xs) ht
  have O : Olds H (H.add (tupleO xs)) := olds_add C.fit.G _
  have C2 : (H.add (tupleO xs)).Cls := C.cls.add C.fit.G _ fun h => (by cases h)
  have B2 := C.boot.add C.fit.G (tupleO xs)
  have hc : (H.add (tupleO xs)).candsF (V.ref (H.last + 1) ht) = xs := by
    unfold HeapM.candsF HeapM.kind HeapM.items
    rw [hof]
    exact if_pos rfl
  have hexc : H.isClass (refN (L + 2)) = true := by
    have hn : okI (L + 2 + ((0 : Nat) : Int)) := okI_of ⟨by omega, by omega⟩
    have := C.boot.isClass (k := 0) (by omega) hn
    have e : refN (L + 2) = V.ref (L + 2 + ((0 : Nat) : Int)) hn := by
      have e2 : L + 2 = L + 2 + ((0 : Nat) : Int) := by omega
      rw [← refN_ok hn, ← e2]
    rw [e]; exact this
  have hsub : ∀ u y, (H.of u).isSome = true → (H.of y).isSome = true → (H.add (tupleO xs)).subM u y = H.subM u y := fun u y hu hy => O.sub C.cls C2 hu hy
  have hcls : ∀ u, (H.of u).isSome = true → (H.add (tupleO xs)).isClsF (V.ref (L + 19) hb) u = H.isClsF (V.ref (L + 19) hb) u := fun u hu => by
    rw [B2.isCls ⟨by omega, by omega⟩ hb, C.boot.isCls ⟨by omega, by omega⟩ hb]
    exact hsub u _ hu (class_some hexc)
  have hhit : ∀ x ∈ xs, (H.add (tupleO xs)).hitF (V.ref (L + 19) hb) v x = H.hitF (V.ref (L + 19) hb) v x := fun x hx => by
    unfold HeapM.hitF HeapM.isF
    rw [of_or O hv]
    rcases hv.2 with h2 | ⟨c, h2, h3⟩
    · have h5 := kind_cls h2
      have hn : H.ofM v = none := by unfold HeapM.ofM; rw [if_neg (by rw [h5]; simp)]
      rw [hn]; rfl
    · rw [h2]
      simp only [Option.getD_some]
      rw [hcls c (class_some h3), hsub c x (class_some h3) (some_or (hxs x hx))]
  unfold HeapM.matchF
  rw [hc]
  have e1 : xs.all ((H.add (tupleO xs)).isClsF (V.ref (L + 19) hb)) = xs.all (H.isClsF (V.ref (L + 19) hb)) := by
    rw [Bool.eq_iff_iff, List.all_eq_true, List.all_eq_true]
    exact ⟨fun h x hx => by rw [← hcls x (some_or (hxs x hx))]; exact h x hx, fun h x hx => by rw [hcls x (some_or (hxs x hx))]; exact h x hx⟩
  have e2 : xs.any ((H.add (tupleO xs)).hitF (V.ref (L + 19) hb) v) = xs.any (H.hitF (V.ref (L + 19) hb) v) := by
    rw [Bool.eq_iff_iff, List.any_eq_true, List.any_eq_true]
    exact ⟨fun ⟨x, hx, h⟩ => ⟨x, hx, by rw [← hhit x hx]; exact h⟩, fun ⟨x, hx, h⟩ => ⟨x, hx, by rw [hhit x hx]; exact h⟩⟩
  rw [e1, e2]
theorem kt_match {H : HeapM} (S : Sep w Rs W) (j : Nat) (hj : Rs[j]? = some (heapR h H)) {N : Nat} (G : H.Good N) (hN : N ≤ 4000000) (bn v cl : V) (m : Option Bool) (hm : H.matchF bn v cl = m) (r : Bool) (s : ByteArray) (hr : m.getD false = r) (hs : excM m = s) :
    Calls Tryd.prog 19 #[.pointer (some ⟨h, 0, none⟩), .agg #[.int .i64 bn.kind, .int .i64 bn.n, .string bn.s], .agg #[.int .i64 v.kind, .int .i64 v.n, .string v.s], .agg #[.int .i64 cl.kind, .int .i64 cl.n, .string cl.s]] W fun e W' => e = .returned (.tuple #[.bool r, .agg #[.string s, .int .i64 0, .int .i64 0, .string ⟨#[]⟩, .bool false]]) ∧ Sep w Rs W' := by
  have := matches_ok S j hj G hN bn v cl
  rw [hm] at this
  subst hr hs
  exact this
theorem kt_tup (S : Sep w Rs W) (j : Nat) (hj : Rs[j]? = some (heapR h H)) {N : Nat} (F : H.Fit N) (hN : N + 1 ≤ 4000000) (xs : List V) (a : Option Addr) (n c : Nat) (hs : SeesV W (.slice a n c) xs) (hl : xs.length ≤ 100) (tn : Int) (ht : H.last + 1 = tn) :
    Calls Tryd.prog 24 #[.pointer (some ⟨h, 0, none⟩), .int .i64 2, .string ⟨#[]⟩, .int .i64 0, .slice a n c] W fun e W' => e = .returned (.agg #[.int .i64 4, .int .i64 tn, .string ⟨#[]⟩]) ∧ Sep w (Rs.set j (heapR h (H.add (tupleO xs)))) W' := by
  subst ht
  exact (S.make j hj F.G hN (tupleO xs) _ hs (by simp [tupleO]; omega) rfl (by simp [tupleO]) (by simp [tupleO])).mono fun e W' hh => ⟨hh.1, hh.2⟩
end
set_option maxRecDepth 100000 in
set_option maxHeartbeats 12800000 in
theorem walk_at (w : World) (hG : GlobF w) {ba ia : Option Addr} {bc ic : Nat} {svs : List SlV} {B : List (List Int)} {I : List Int} (P : PlanIn w ba bc svs B ia ic I) (a : Int) (i : Int) (pk : List Int) (pa : Option Addr) (pc : Nat) (hpk : ∀ W2, Below w.heap.size w W2 → SeesN W2 (.slice pa pk.length pc) pk) :
    Calls Tryd.prog 5 #[.agg #[.int .i64 a, .slice ba svs.length bc, .slice ia I.length ic], .int .i64 i, .slice pa pk.length pc] w fun e W' => e = .returned (.bool true) ∧ Below w.heap.size w W' := by
  have hpl : (pk.length : Int) ≤ 9223372036854775807 := by
    obtain ⟨_, _, e, _, q2, _⟩ := hpk w (Below.refl _ _)
    unfold maxLen at q2; omega
  have HPK := Lib.hid hpk
  clear hpk
  have HGL := Lib.hid hG
  have HP := Lib.hid P
  obtain ⟨b, hb⟩ : ∃ gx_, (w.heap.size) = gx_ := ⟨_, rfl⟩
  have S := (Sep.start (Below.refl w.heap.size w)).alloc (.cells #[.int .i64 a, .slice ba svs.length bc, .slice ia I.length ic] 46)
  simp only [World.size_alloc, hb] at S
  replace S : Sep w (boxR b (.cells #[.int .i64 a, .slice ba svs.length bc, .slice ia I.length ic] 46) :: []) _ := S
  have M0 := Lib.hid ((Big_ok P S.below a).mono fun e W1 (hh : BigDone _ a B I e W1) => (by obtain ⟨r, h1, h2, h3⟩ := hh; exact ⟨r, h1, S.later h2, h3⟩ : ∃ r : Bool, e = .returned (.bool r) ∧ Sep w (boxR b (.cells #[.int .i64 a, .slice ba svs.length bc, .slice ia I.length ic] 46) :: []) W1 ∧ (r = false → a ≤ 20 ∧ B.length ≤ 20 ∧ (∀ r ∈ B, r.length ≤ 6) ∧ I.length ≤ 20)))
  have d0 := cellAt (S.box (b := b) 0 rfl) 0 (v := .int .i64 a) rfl
  have d1 := cellAt (S.box (b := b) 0 rfl) 1 (v := .slice ba svs.length bc) rfl
  have d2 := cellAt (S.box (b := b) 0 rfl) 2 (v := .slice ia I.length ic) rfl
  clear S P hG
  go_enter Tryd.func5, Tryd.ntmps5
  go_wp2_with fail
  try simp only [hb]
  refine M0.out.mono ?_
  rintro e w1 ⟨r, rfl, S, D⟩
  clear M0 hb d0 d1 d2
  cases r with
  | true =>
    have HS := Lib.hid S.below
    clear S D
    go_wp2
    go_ret
    exact ⟨rfl, HS.out⟩
  | false =>
    by_cases hp20 : pk.length ≤ 20
    case neg =>
      have hp21 : ¬ (pk.length : Int) ≤ 20 := by omega
      have HS := Lib.hid S.below
      clear S D hp20
      go_wp2
      go_ret
      exact ⟨rfl, HS.out⟩
    have hp21 : (pk.length : Int) ≤ 20 := by omega
    have HP20 := Lib.hid hp20
    clear hp20
    have D := D rfl
    have d0 := cellAt (S.box (b := b) 0 rfl) 0 (v := .int .i64 a) rfl
    have d1 := cellAt (S.box (b := b) 0 rfl) 1 (v := .slice ba svs.length bc) rfl
    have d2 := cellAt (S.box (b := b) 0 rfl) 2 (v := .slice ia I.length ic) rfl
    have M := Lib.hid (laid_all S HGL.out HP.out a D)
    clear S
    go_wp2_with fail
    refine M.out.mono ?_
    rintro e w2 ⟨h, oa, oc, H, l, L, rfl, C, S⟩
    clear M d0 d1 d2
    clear HP D
    replace S : Sep w (valsR (.slice oa l.length oc) l :: heapR h H :: boxR b (.cells #[.int .i64 a, .slice ba svs.length bc, .slice ia I.length ic] 46) :: []) _ := S
    obtain ⟨x8, hx8⟩ : ∃ gx_, (w2.heap.size) = gx_ := ⟨_, rfl⟩
    replace S := (S.alloc (.cells #[.int .i64 4, .int .i64 (L + 19), .string ⟨#[]⟩] 31))
    simp only [World.size_alloc, hx8] at S
    replace S : Sep w (boxR x8 (.cells #[.int .i64 4, .int .i64 (L + 19), .string ⟨#[]⟩] 31) :: valsR (.slice oa l.length oc) l :: heapR h H :: boxR b (.cells #[.int .i64 a, .slice ba svs.length bc, .slice ia I.length ic] 46) :: []) _ := S
    have HC := Lib.hid C
    have hb19 : okI (L + 19) := okI_of (by have := C.rng; omega)
    clear C
    have hl17 : ¬ l.length = 0 := by have := HC.out.len; omega
    have hl60 : (l.length : Int) ≤ 60 := by have := HC.out.len; omega
    have HNE := Lib.hid (show l ≠ [] from fun e => hl17 (by rw [e]; rfl))
    have CP := Pick_ok _ _ l i (S.row 1 rfl).sees'
    have hmem := HC.out.all _ (pickL_mem HNE.out i)
    obtain ⟨v, hv⟩ : ∃ gx_, (pickL l i) = gx_ := ⟨_, rfl⟩
    rw [hv] at CP hmem
    have HV := Lib.hid hmem
    clear hv hmem
    replace CP := Lib.hid (CP.mono fun e W1 (hh : _ ∧ _) => (⟨hh.1, S.later hh.2⟩ : _ ∧ Sep w (boxR x8 (.cells #[.int .i64 4, .int .i64 (L + 19), .string ⟨#[]⟩] 31) :: valsR (.slice oa l.length oc) l :: heapR h H :: boxR b (.cells #[.int .i64 a, .slice ba svs.length bc, .slice ia I.length ic] 46) :: []) W1))
    simp only [V.val] at CP
    clear S
    go_wp2_with fail
    try simp only [hx8]
    refine CP.out.mono ?_
    rintro e w4 ⟨rfl, S⟩
    clear CP hl17 hx8
    obtain ⟨x10, hx10⟩ : ∃ gx_, (w4.heap.size) = gx_ := ⟨_, rfl⟩
    replace S := (S.alloc (.cells #[.int .i64 v.kind, .int .i64 v.n, .string v.s] 31))
    simp only [World.size_alloc, hx10] at S
    replace S : Sep w (boxR x10 (.cells #[.int .i64 v.kind, .int .i64 v.n, .string v.s] 31) :: boxR x8 (.cells #[.int .i64 4, .int .i64 (L + 19), .string ⟨#[]⟩] 31) :: valsR (.slice oa l.length oc) l :: heapR h H :: boxR b (.cells #[.int .i64 a, .slice ba svs.length bc, .slice ia I.length ic] 46) :: []) _ := S
    obtain ⟨bn, hbn⟩ : ∃ bn : V, bn = V.ref (L + 19) hb19 := ⟨_, rfl⟩
    obtain ⟨XS, hXS⟩ : ∃ XS : Nat → List V, XS = fun j => (pk.take j).map (pickL l) := ⟨_, rfl⟩
    have HX0 : Hid (XS 0 = []) := Lib.hid (by rw [hXS]; rfl)
    have HXL : Hid (∀ j, j ≤ pk.length → (XS j).length = j) := Lib.hid (by rw [hXS]; intro j hj; simp; omega)
    have HXN : Hid (∀ (j : Nat) (n : Int), pk[j]? = some n → XS (j + 1) = XS j ++ [pickL l n]) := Lib.hid (by rw [hXS]; intro j n hn; simp only; rw [List.take_add_one, hn, List.map_append]; rfl)
    have HXM : Hid (∀ j, ∀ x ∈ XS j, H.ClsOr x) := Lib.hid (by
      rw [hXS]; intro j x hx
      obtain ⟨n, _, rfl⟩ := List.mem_map.1 hx
      exact HC.out.all _ (pickL_mem HNE.out n))
    have HBN := Lib.hid hbn
    clear hXS hbn
    have S2 := S.madeRow V.cells 3 31
    simp only [World.size_alloc, hx10] at S2
    replace S : Hid (Sep w (valsR (.slice (some ⟨x10 + 1, 0, none⟩) 0 0) [] :: boxR x10 (.cells #[.int .i64 v.kind, .int .i64 v.n, .string v.s] 31) :: boxR x8 (.cells #[.int .i64 4, .int .i64 (L + 19), .string ⟨#[]⟩] 31) :: valsR (.slice oa l.length oc) l :: heapR h H :: boxR b (.cells #[.int .i64 a, .slice ba svs.length bc, .slice ia I.length ic] 46) :: []) _) := Lib.hid S2
    clear S2
    go_wp2
    try simp only [World.size_alloc, hx10]
    clear hx10
    go_loopw [11, 12, 13] (fun iv sv kv wr => ∃ (j : Nat) (ya : Option Addr) (yc : Nat), j ≤ pk.length ∧ kv = .int .i64 j ∧ iv = .slice ya j yc ∧ sv = .bool ((XS j).any (H.hitF bn v)) ∧ (∀ x ∈ XS j, H.isClsF bn x = true) ∧ Sep w (valsR (.slice ya j yc) (XS j) :: boxR x10 (.cells #[.int .i64 v.kind, .int .i64 v.n, .string v.s] 31) :: boxR x8 (.cells #[.int .i64 4, .int .i64 (L + 19), .string ⟨#[]⟩] 31) :: valsR (.slice oa l.length oc) l :: heapR h H :: boxR b (.cells #[.int .i64 a, .slice ba svs.length bc, .slice ia I.length ic] 46) :: []) wr) (fun _ _ kv _ => pk.length - (intOf kv).toNat)
    case atStart => exact ⟨0, _, _, by omega, rfl, rfl, by rw [HX0.out]; rfl, by rw [HX0.out]; simp, by rw [HX0.out]; exact S.out⟩
    case round =>
      clear S
      obtain ⟨j, ya, yc, hj, rfl, rfl, rfl, hall, S⟩ := hrel
      have HJ := Lib.hid (And.intro hj hall)
      obtain ⟨sm, hsm⟩ : ∃ sm, (XS j).any (H.hitF bn v) = sm := ⟨_, rfl⟩
      rw [hsm]
      have HSM := Lib.hid hsm
      have hj20 : (j : Int) ≤ 20 := by omega
      clear hsm hall
      by_cases hjl : j < pk.length
      · have hjl1 : (j : Int) < pk.length := by omega
        have hj0 : (0 : Int) ≤ j := by omega
        obtain ⟨n, hn⟩ : ∃ n, pk[j]? = some n := ⟨pk[j], by simp [hjl]⟩
        obtain ⟨_, _, e0, p1, p2, p3⟩ := HPK.out _ S.below
        cases e0
        obtain ⟨g1, o1, rfl, hcell⟩ : ∃ g o, pa = some ⟨g, o, none⟩ ∧ ∀ i n, pk[i]? = some n → wr.cell? ⟨g, o + i, none⟩ = some (.int .i64 n) := by
          rcases p3 with hh | hh
          · subst hh; simp at hjl
          · exact hh
        have cx := hcell j n hn
        have hXN := HXN.out j n hn
        have hmem := HXM.out (j + 1)
        clear hcell p1 p2 p3
        have CP := Pick_ok _ _ l n (S.row 3 rfl).sees'
        obtain ⟨x, hx⟩ : ∃ gx_, (pickL l n) = gx_ := ⟨_, rfl⟩
        rw [hx] at CP hXN
        have hxm : H.ClsOr x := hmem x (by rw [hXN]; simp)
        have HN := Lib.hid (And.intro hXN (And.intro hjl hxm))
        clear hx hmem hXN hxm hn hjl hj
        replace CP := Lib.hid (CP.mono fun e W1 (hh : _ ∧ _) => (⟨hh.1, S.later hh.2⟩ : _ ∧ Sep w (valsR (.slice ya j yc) (XS j) :: boxR x10 (.cells #[.int .i64 v.kind, .int .i64 v.n, .string v.s] 31) :: boxR x8 (.cells #[.int .i64 4, .int .i64 (L + 19), .string ⟨#[]⟩] 31) :: valsR (.slice oa l.length oc) l :: heapR h H :: boxR b (.cells #[.int .i64 a, .slice ba svs.length bc, .slice ia I.length ic] 46) :: []) W1))
        simp only [V.val] at CP
        clear S
        go_wp2_with fail
        refine CP.out.mono ?_
        rintro e w5 ⟨rfl, S⟩
        clear CP cx
        obtain ⟨x14, hx14⟩ : ∃ gx_, (w5.heap.size) = gx_ := ⟨_, rfl⟩
        replace S := (S.alloc (.cells #[.int .i64 x.kind, .int .i64 x.n, .string x.s] 31))
        simp only [World.size_alloc, hx14] at S
        replace S : Sep w (boxR x14 (.cells #[.int .i64 x.kind, .int .i64 x.n, .string x.s] 31) :: valsR (.slice ya j yc) (XS j) :: boxR x10 (.cells #[.int .i64 v.kind, .int .i64 v.n, .string v.s] 31) :: boxR x8 (.cells #[.int .i64 4, .int .i64 (L + 19), .string ⟨#[]⟩] 31) :: valsR (.slice oa l.length oc) l :: heapR h H :: boxR b (.cells #[.int .i64 a, .slice ba svs.length bc, .slice ia I.length ic] 46) :: []) _ := S
        have d0 := cellAt (S.box (b := x14) 0 rfl) 0 (v := .int .i64 x.kind) rfl
        have d1 := cellAt (S.box (b := x14) 0 rfl) 1 (v := .int .i64 x.n) rfl
        have d2 := cellAt (S.box (b := x14) 0 rfl) 2 (v := .string x.s) rfl
        have S8 := Lib.hid (S.alloc (.cells #[.int .i64 x.kind, .int .i64 x.n, .string x.s] 31))
        have hone := Lib.hid (sees_one (f := V.cells) (m := 3) (y := x) (heapAllocNew (w5.alloc (.cells #[.int .i64 x.kind, .int .i64 x.n, .string x.s] 31)) (.cells #[.int .i64 x.kind, .int .i64 x.n, .string x.s] 31)) rfl)
        simp only [World.size_alloc, hx14] at hone
        clear S
        go_wp2_with (at_builtin; (try simp only [hx14]); refine wpList_append_rows rfl _ _ 48 31 rfl Tryd.underlying48 _ 32 info_val rfl (by decide) (by decide) V.cells_len (by intro p u hu; simp [V.cells] at hu; rcases hu with rfl | rfl | rfl <;> rfl) S8.out 2 rfl rfl _ [x] rfl hone.out (by rw [HXL.out j HJ.out.1]; simp; omega) ?_)
        intro va vc w6 S9
        rw [HXL.out j HJ.out.1] at S9 ⊢
        have S : Sep w (boxR x14 (.cells #[.int .i64 x.kind, .int .i64 x.n, .string x.s] 31) :: valsR (.slice va (j + 1) vc) (XS (j + 1)) :: boxR x10 (.cells #[.int .i64 v.kind, .int .i64 v.n, .string v.s] 31) :: boxR x8 (.cells #[.int .i64 4, .int .i64 (L + 19), .string ⟨#[]⟩] 31) :: valsR (.slice oa l.length oc) l :: heapR h H :: boxR b (.cells #[.int .i64 a, .slice ba svs.length bc, .slice ia I.length ic] 46) :: []) w6 := by rw [HN.out.1]; exact S9.tail
        clear S8 S9 hone hx14 d0 d1 d2
        have e19 : (V.ref (L + 19) hb19) = bn := HBN.out.symm
        obtain ⟨t, ht⟩ : ∃ t, H.isClsF bn x = t := ⟨_, rfl⟩
        obtain ⟨d, hd⟩ : ∃ d, H.hitF bn v x = d := ⟨_, rfl⟩
        have HT := Lib.hid (And.intro ht hd)
        clear ht hd
        have hvb : (.agg #[.int .i64 bn.kind, .int .i64 bn.n, .string bn.s] : Value) = .agg #[.int .i64 4, .int .i64 (L + 19), .string ⟨#[]⟩] := by rw [HBN.out]; rfl
        have HVB := Lib.hid hvb
        clear hvb e19
        cases t with
        | false =>
          have hm : H.matchF (V.ref (L + 19) hb19) v x = none := by rw [← HBN.out, one_match HN.out.2.2, HT.out.1]; rfl
          have d0 := cellAt (S.box (b := x8) 3 rfl) 0 (v := .int .i64 4) rfl
          have d1 := cellAt (S.box (b := x8) 3 rfl) 1 (v := .int .i64 (L + 19)) rfl
          have d2 := cellAt (S.box (b := x8) 3 rfl) 2 (v := .string ⟨#[]⟩) rfl
          have d3 := cellAt (S.box (b := x10) 2 rfl) 0 (v := .int .i64 v.kind) rfl
          have d4 := cellAt (S.box (b := x10) 2 rfl) 1 (v := .int .i64 v.n) rfl
          have d5 := cellAt (S.box (b := x10) 2 rfl) 2 (v := .string v.s) rfl
          have d6 := cellAt (S.box (b := x14) 0 rfl) 0 (v := .int .i64 x.kind) rfl
          have d7 := cellAt (S.box (b := x14) 0 rfl) 1 (v := .int .i64 x.n) rfl
          have d8 := cellAt (S.box (b := x14) 0 rfl) 2 (v := .string x.s) rfl
          have M := Lib.hid (kt_match S 5 rfl HC.out.fit.G (by omega) (V.ref (L + 19) hb19) v x none hm false typeE rfl rfl)
          clear S
          go_wp2_with fail
          refine M.out.mono ?_
          rintro e w7 ⟨rfl, S⟩
          clear M d0 d1 d2 d3 d4 d5 d6 d7 d8
          clear hm
          replace S : Sep w (boxR x14 (.cells #[.int .i64 x.kind, .int .i64 x.n, .string x.s] 31) :: valsR (.slice va (j + 1) vc) (XS (j + 1)) :: boxR x10 (.cells #[.int .i64 v.kind, .int .i64 v.n, .string v.s] 31) :: boxR x8 (.cells #[.int .i64 4, .int .i64 (L + 19), .string ⟨#[]⟩] 31) :: valsR (.slice oa l.length oc) l :: heapR h H :: boxR b (.cells #[.int .i64 a, .slice ba svs.length bc, .slice ia I.length ic] 46) :: []) _ := S
          obtain ⟨x16, hx16⟩ : ∃ gx_, (w7.heap.size) = gx_ := ⟨_, rfl⟩
          replace S := (S.alloc (.cells #[.string typeE, .int .i64 0, .int .i64 0, .string ⟨#[]⟩, .bool false] 35))
          simp only [World.size_alloc, hx16] at S
          replace S : Sep w (boxR x16 (.cells #[.string typeE, .int .i64 0, .int .i64 0, .string ⟨#[]⟩, .bool false] 35) :: boxR x14 (.cells #[.int .i64 x.kind, .int .i64 x.n, .string x.s] 31) :: valsR (.slice va (j + 1) vc) (XS (j + 1)) :: boxR x10 (.cells #[.int .i64 v.kind, .int .i64 v.n, .string v.s] 31) :: boxR x8 (.cells #[.int .i64 4, .int .i64 (L + 19), .string ⟨#[]⟩] 31) :: valsR (.slice oa l.length oc) l :: heapR h H :: boxR b (.cells #[.int .i64 a, .slice ba svs.length bc, .slice ia I.length ic] 46) :: []) _ := S
          have hte : typeE.toList.isEmpty = false := by rw [ByteArray.toList_eq]; rfl
          obtain ⟨tn, htn⟩ : ∃ tn, H.last + 1 = tn := ⟨_, rfl⟩
          have hot : okI tn := okI_of (by have := HC.out.last; have := HC.out.rng; omega)
          have HTN := Lib.hid htn
          clear htn
          have d0 := cellAt (S.box (b := x16) 0 rfl) 0 (v := .string typeE) rfl
          have d1 := cellAt (S.box (b := x16) 0 rfl) 1 (v := .int .i64 0) rfl
          have d2 := cellAt (S.box (b := x16) 0 rfl) 2 (v := .int .i64 0) rfl
          have d3 := cellAt (S.box (b := x16) 0 rfl) 3 (v := .string ⟨#[]⟩) rfl
          have d4 := cellAt (S.box (b := x16) 0 rfl) 4 (v := .bool false) rfl
          have M := Lib.hid (kt_tup S 6 rfl HC.out.fit (by omega) (XS (j + 1)) va (j + 1) vc ((S.row 2 rfl).sees') (by rw [HXL.out _ HN.out.2.1]; have := HP20.out; have := HN.out.2.1; omega) tn HTN.out)
          clear S
          go_wp2_with fail
          try simp only [hx16]
          refine M.out.mono ?_
          rintro e w8 ⟨rfl, S⟩
          clear M d0 d1 d2 d3 d4 hx16
          replace S : Sep w (boxR x16 (.cells #[.string typeE, .int .i64 0, .int .i64 0, .string ⟨#[]⟩, .bool false] 35) :: boxR x14 (.cells #[.int .i64 x.kind, .int .i64 x.n, .string x.s] 31) :: valsR (.slice va (j + 1) vc) (XS (j + 1)) :: boxR x10 (.cells #[.int .i64 v.kind, .int .i64 v.n, .string v.s] 31) :: boxR x8 (.cells #[.int .i64 4, .int .i64 (L + 19), .string ⟨#[]⟩] 31) :: valsR (.slice oa l.length oc) l :: heapR h (H.add (tupleO (XS (j + 1)))) :: boxR b (.cells #[.int .i64 a, .slice ba svs.length bc, .slice ia I.length ic] 46) :: []) _ := S
          obtain ⟨x17, hx17⟩ : ∃ gx_, (w8.heap.size) = gx_ := ⟨_, rfl⟩
          replace S := (S.alloc (.cells #[.int .i64 4, .int .i64 tn, .string ⟨#[]⟩] 31))
          simp only [World.size_alloc, hx17] at S
          replace S : Sep w (boxR x17 (.cells #[.int .i64 4, .int .i64 tn, .string ⟨#[]⟩] 31) :: boxR x16 (.cells #[.string typeE, .int .i64 0, .int .i64 0, .string ⟨#[]⟩, .bool false] 35) :: boxR x14 (.cells #[.int .i64 x.kind, .int .i64 x.n, .string x.s] 31) :: valsR (.slice va (j + 1) vc) (XS (j + 1)) :: boxR x10 (.cells #[.int .i64 v.kind, .int .i64 v.n, .string v.s] 31) :: boxR x8 (.cells #[.int .i64 4, .int .i64 (L + 19), .string ⟨#[]⟩] 31) :: valsR (.slice oa l.length oc) l :: heapR h (H.add (tupleO (XS (j + 1)))) :: boxR b (.cells #[.int .i64 a, .slice ba svs.length bc, .slice ia I.length ic] 46) :: []) _ := S
          have hm : (H.add (tupleO (XS (j + 1)))).matchF (V.ref (L + 19) hb19) v (V.ref tn hot) = none := by
            have h1 := HTN.out
            subst h1
            rw [tup_match HC.out HV.out _ (HXM.out (j + 1)), if_neg]
            rw [HN.out.1, ← HBN.out]
            simp [HT.out.1]
          have F2 : (H.add (tupleO (XS (j + 1)))).Fit 5300 := HC.out.fit.addP _ ⟨by show (1 : Int) ≤ 2; decide, by show (2 : Int) ≤ 12; decide⟩ rfl (by show 5200 + (XS (j + 1)).length + 2 ≤ 5300; rw [HXL.out _ HN.out.2.1]; have := HP20.out; have := HN.out.2.1; omega)
          have d0 := cellAt (S.box (b := x8) 5 rfl) 0 (v := .int .i64 4) rfl
          have d1 := cellAt (S.box (b := x8) 5 rfl) 1 (v := .int .i64 (L + 19)) rfl
          have d2 := cellAt (S.box (b := x8) 5 rfl) 2 (v := .string ⟨#[]⟩) rfl
          have d3 := cellAt (S.box (b := x10) 4 rfl) 0 (v := .int .i64 v.kind) rfl
          have d4 := cellAt (S.box (b := x10) 4 rfl) 1 (v := .int .i64 v.n) rfl
          have d5 := cellAt (S.box (b := x10) 4 rfl) 2 (v := .string v.s) rfl
          have d6 := cellAt (S.box (b := x17) 0 rfl) 0 (v := .int .i64 4) rfl
          have d7 := cellAt (S.box (b := x17) 0 rfl) 1 (v := .int .i64 tn) rfl
          have d8 := cellAt (S.box (b := x17) 0 rfl) 2 (v := .string ⟨#[]⟩) rfl
          have M := Lib.hid (kt_match S 7 rfl F2.G (by omega) (V.ref (L + 19) hb19) v (V.ref tn hot) none hm false typeE rfl rfl)
          clear S
          go_wp2_with fail
          try simp only [hx17]
          refine M.out.mono ?_
          rintro e w9 ⟨rfl, S⟩
          clear M d0 d1 d2 d3 d4 d5 d6 d7 d8 hx17
          clear hm F2
          replace S : Sep w (boxR x17 (.cells #[.int .i64 4, .int .i64 tn, .string ⟨#[]⟩] 31) :: boxR x16 (.cells #[.string typeE, .int .i64 0, .int .i64 0, .string ⟨#[]⟩, .bool false] 35) :: boxR x14 (.cells #[.int .i64 x.kind, .int .i64 x.n, .string x.s] 31) :: valsR (.slice va (j + 1) vc) (XS (j + 1)) :: boxR x10 (.cells #[.int .i64 v.kind, .int .i64 v.n, .string v.s] 31) :: boxR x8 (.cells #[.int .i64 4, .int .i64 (L + 19), .string ⟨#[]⟩] 31) :: valsR (.slice oa l.length oc) l :: heapR h (H.add (tupleO (XS (j + 1)))) :: boxR b (.cells #[.int .i64 a, .slice ba svs.length bc, .slice ia I.length ic] 46) :: []) _ := S
          obtain ⟨x19, hx19⟩ : ∃ gx_, (w9.heap.size) = gx_ := ⟨_, rfl⟩
          replace S := (S.alloc (.cells #[.string typeE, .int .i64 0, .int .i64 0, .string ⟨#[]⟩, .bool false] 35))
          simp only [World.size_alloc, hx19] at S
          replace S : Sep w (boxR x19 (.cells #[.string typeE, .int .i64 0, .int .i64 0, .string ⟨#[]⟩, .bool false] 35) :: boxR x17 (.cells #[.int .i64 4, .int .i64 tn, .string ⟨#[]⟩] 31) :: boxR x16 (.cells #[.string typeE, .int .i64 0, .int .i64 0, .string ⟨#[]⟩, .bool false] 35) :: boxR x14 (.cells #[.int .i64 x.kind, .int .i64 x.n, .string x.s] 31) :: valsR (.slice va (j + 1) vc) (XS (j + 1)) :: boxR x10 (.cells #[.int .i64 v.kind, .int .i64 v.n, .string v.s] 31) :: boxR x8 (.cells #[.int .i64 4, .int .i64 (L + 19), .string ⟨#[]⟩] 31) :: valsR (.slice oa l.length oc) l :: heapR h (H.add (tupleO (XS (j + 1)))) :: boxR b (.cells #[.int .i64 a, .slice ba svs.length bc, .slice ia I.length ic] 46) :: []) _ := S
          have M := Lib.hid (raised_ok S HGL.out)
          clear S
          go_wp2_with fail
          try simp only [hx19]
          refine M.out.mono ?_
          rintro e w10 ⟨rfl, S⟩
          clear M hx19
          replace S : Sep w (boxR x19 (.cells #[.string typeE, .int .i64 0, .int .i64 0, .string ⟨#[]⟩, .bool false] 35) :: boxR x17 (.cells #[.int .i64 4, .int .i64 tn, .string ⟨#[]⟩] 31) :: boxR x16 (.cells #[.string typeE, .int .i64 0, .int .i64 0, .string ⟨#[]⟩, .bool false] 35) :: boxR x14 (.cells #[.int .i64 x.kind, .int .i64 x.n, .string x.s] 31) :: valsR (.slice va (j + 1) vc) (XS (j + 1)) :: boxR x10 (.cells #[.int .i64 v.kind, .int .i64 v.n, .string v.s] 31) :: boxR x8 (.cells #[.int .i64 4, .int .i64 (L + 19), .string ⟨#[]⟩] 31) :: valsR (.slice oa l.length oc) l :: heapR h (H.add (tupleO (XS (j + 1)))) :: boxR b (.cells #[.int .i64 a, .slice ba svs.length bc, .slice ia I.length ic] 46) :: []) _ := S
          have d0 := cellAt (S.box (b := x19) 0 rfl) 0 (v := .string typeE) rfl
          have d1 := cellAt (S.box (b := x19) 0 rfl) 1 (v := .int .i64 0) rfl
          have d2 := cellAt (S.box (b := x19) 0 rfl) 2 (v := .int .i64 0) rfl
          have d3 := cellAt (S.box (b := x19) 0 rfl) 3 (v := .string ⟨#[]⟩) rfl
          have d4 := cellAt (S.box (b := x19) 0 rfl) 4 (v := .bool false) rfl
          have EQ : ∀ W, (binOp .eql 35 (.agg #[.string typeE, .int .i64 0, .int .i64 0, .string ⟨#[]⟩, .bool false]) (.agg #[.string ⟨#[84, 121, 112, 101, 69, 114, 114, 111, 114]⟩, .int .i64 0, .int .i64 0, .string ⟨#[]⟩, .bool false])).run Tryd.prog W = .ok (.bool true) W := fun W => by simp only [typeE]; go_simp
          have HS := Lib.hid S.below
          clear S
          go_wp2
          go_ret
          exact ⟨rfl, HS.out⟩
        | true =>
          have hm : H.matchF (V.ref (L + 19) hb19) v x = some d := by rw [← HBN.out, one_match HN.out.2.2, HT.out.1, if_pos rfl, HT.out.2]
          have d0 := cellAt (S.box (b := x8) 3 rfl) 0 (v := .int .i64 4) rfl
          have d1 := cellAt (S.box (b := x8) 3 rfl) 1 (v := .int .i64 (L + 19)) rfl
          have d2 := cellAt (S.box (b := x8) 3 rfl) 2 (v := .string ⟨#[]⟩) rfl
          have d3 := cellAt (S.box (b := x10) 2 rfl) 0 (v := .int .i64 v.kind) rfl
          have d4 := cellAt (S.box (b := x10) 2 rfl) 1 (v := .int .i64 v.n) rfl
          have d5 := cellAt (S.box (b := x10) 2 rfl) 2 (v := .string v.s) rfl
          have d6 := cellAt (S.box (b := x14) 0 rfl) 0 (v := .int .i64 x.kind) rfl
          have d7 := cellAt (S.box (b := x14) 0 rfl) 1 (v := .int .i64 x.n) rfl
          have d8 := cellAt (S.box (b := x14) 0 rfl) 2 (v := .string x.s) rfl
          have M := Lib.hid (kt_match S 5 rfl HC.out.fit.G (by omega) (V.ref (L + 19) hb19) v x (some d) hm d ⟨#[]⟩ rfl rfl)
          clear S
          go_wp2_with fail
          refine M.out.mono ?_
          rintro e w7 ⟨rfl, S⟩
          clear M d0 d1 d2 d3 d4 d5 d6 d7 d8
          clear hm
          replace S : Sep w (boxR x14 (.cells #[.int .i64 x.kind, .int .i64 x.n, .string x.s] 31) :: valsR (.slice va (j + 1) vc) (XS (j + 1)) :: boxR x10 (.cells #[.int .i64 v.kind, .int .i64 v.n, .string v.s] 31) :: boxR x8 (.cells #[.int .i64 4, .int .i64 (L + 19), .string ⟨#[]⟩] 31) :: valsR (.slice oa l.length oc) l :: heapR h H :: boxR b (.cells #[.int .i64 a, .slice ba svs.length bc, .slice ia I.length ic] 46) :: []) _ := S
          obtain ⟨x16, hx16⟩ : ∃ gx_, (w7.heap.size) = gx_ := ⟨_, rfl⟩
          replace S := (S.alloc (.cells #[.string ⟨#[]⟩, .int .i64 0, .int .i64 0, .string ⟨#[]⟩, .bool false] 35))
          simp only [World.size_alloc, hx16] at S
          replace S : Sep w (boxR x16 (.cells #[.string ⟨#[]⟩, .int .i64 0, .int .i64 0, .string ⟨#[]⟩, .bool false] 35) :: boxR x14 (.cells #[.int .i64 x.kind, .int .i64 x.n, .string x.s] 31) :: valsR (.slice va (j + 1) vc) (XS (j + 1)) :: boxR x10 (.cells #[.int .i64 v.kind, .int .i64 v.n, .string v.s] 31) :: boxR x8 (.cells #[.int .i64 4, .int .i64 (L + 19), .string ⟨#[]⟩] 31) :: valsR (.slice oa l.length oc) l :: heapR h H :: boxR b (.cells #[.int .i64 a, .slice ba svs.length bc, .slice ia I.length ic] 46) :: []) _ := S
          have z0 := cellAt (S.box (b := x16) 0 rfl) 0 (v := .string ⟨#[]⟩) rfl
          have S9 := Lib.hid S.tail.tail
          have hall : ∀ y ∈ XS (j + 1), H.isClsF bn y = true := by
            rw [HN.out.1]; intro y hy
            rcases List.mem_append.1 hy with hh | hh
            · exact HJ.out.2 y hh
            · simp only [List.mem_singleton] at hh; subst hh; exact HT.out.1
          have hany : (XS (j + 1)).any (H.hitF bn v) = (sm || d) := by
            rw [HN.out.1, List.any_append, HSM.out]
            simp [HT.out.2]
          have HA := Lib.hid (And.intro hall hany)
          clear S hall hany
          cases sm with
          | false =>
            go_wp2
            refine ⟨⟨j + 1, va, vc, by have := HN.out.2.1; omega, by go_num, by simp, by rw [HA.out.2]; simp, HA.out.1, S9.out⟩, by have := HN.out.2.1; simp [intOf]; omega⟩
          | true =>
            go_wp2
            refine ⟨⟨j + 1, va, vc, by have := HN.out.2.1; omega, by go_num, by simp, by rw [HA.out.2]; simp, HA.out.1, S9.out⟩, by have := HN.out.2.1; simp [intOf]; omega⟩
      · have e : j = pk.length := by omega
        obtain ⟨tn, htn⟩ : ∃ tn, H.last + 1 = tn := ⟨_, rfl⟩
        have hot : okI tn := okI_of (by have := HC.out.last; have := HC.out.rng; omega)
        have HTN := Lib.hid htn
        have HE := Lib.hid e
        have hjl2 : (pk.length : Int) ≤ j := by omega
        clear htn e hjl
        have M := Lib.hid (kt_tup S 4 rfl HC.out.fit (by omega) (XS j) ya j yc ((S.row 0 rfl).sees') (by rw [HXL.out _ HJ.out.1]; omega) tn HTN.out)
        clear S
        go_wp2_with fail
        refine M.out.mono ?_
        rintro e w7 ⟨rfl, S⟩
        clear M
        replace S : Sep w (valsR (.slice ya j yc) (XS j) :: boxR x10 (.cells #[.int .i64 v.kind, .int .i64 v.n, .string v.s] 31) :: boxR x8 (.cells #[.int .i64 4, .int .i64 (L + 19), .string ⟨#[]⟩] 31) :: valsR (.slice oa l.length oc) l :: heapR h (H.add (tupleO (XS j))) :: boxR b (.cells #[.int .i64 a, .slice ba svs.length bc, .slice ia I.length ic] 46) :: []) _ := S
        obtain ⟨x20, hx20⟩ : ∃ gx_, (w7.heap.size) = gx_ := ⟨_, rfl⟩
        replace S := (S.alloc (.cells #[.int .i64 4, .int .i64 tn, .string ⟨#[]⟩] 31))
        simp only [World.size_alloc, hx20] at S
        replace S : Sep w (boxR x20 (.cells #[.int .i64 4, .int .i64 tn, .string ⟨#[]⟩] 31) :: valsR (.slice ya j yc) (XS j) :: boxR x10 (.cells #[.int .i64 v.kind, .int .i64 v.n, .string v.s] 31) :: boxR x8 (.cells #[.int .i64 4, .int .i64 (L + 19), .string ⟨#[]⟩] 31) :: valsR (.slice oa l.length oc) l :: heapR h (H.add (tupleO (XS j))) :: boxR b (.cells #[.int .i64 a, .slice ba svs.length bc, .slice ia I.length ic] 46) :: []) _ := S
        have hm : (H.add (tupleO (XS j))).matchF (V.ref (L + 19) hb19) v (V.ref tn hot) = some sm := by
          have h1 := HTN.out
          subst h1
          rw [tup_match HC.out HV.out _ (HXM.out j), if_pos, ← HBN.out, HSM.out]
          rw [List.all_eq_true, ← HBN.out]
          exact HJ.out.2
        have F2 : (H.add (tupleO (XS j))).Fit 5300 := HC.out.fit.addP _ ⟨by show (1 : Int) ≤ 2; decide, by show (2 : Int) ≤ 12; decide⟩ rfl (by show 5200 + (XS j).length + 2 ≤ 5300; rw [HXL.out _ HJ.out.1]; omega)
        have d0 := cellAt (S.box (b := x8) 3 rfl) 0 (v := .int .i64 4) rfl
        have d1 := cellAt (S.box (b := x8) 3 rfl) 1 (v := .int .i64 (L + 19)) rfl
        have d2 := cellAt (S.box (b := x8) 3 rfl) 2 (v := .string ⟨#[]⟩) rfl
        have d3 := cellAt (S.box (b := x10) 2 rfl) 0 (v := .int .i64 v.kind) rfl
        have d4 := cellAt (S.box (b := x10) 2 rfl) 1 (v := .int .i64 v.n) rfl
        have d5 := cellAt (S.box (b := x10) 2 rfl) 2 (v := .string v.s) rfl
        have d6 := cellAt (S.box (b := x20) 0 rfl) 0 (v := .int .i64 4) rfl
        have d7 := cellAt (S.box (b := x20) 0 rfl) 1 (v := .int .i64 tn) rfl
        have d8 := cellAt (S.box (b := x20) 0 rfl) 2 (v := .string ⟨#[]⟩) rfl
        have M := Lib.hid (kt_match S 5 rfl F2.G (by omega) (V.ref (L + 19) hb19) v (V.ref tn hot) (some sm) hm sm ⟨#[]⟩ rfl rfl)
        clear S
        go_wp2_with fail
        try simp only [hx20]
        refine M.out.mono ?_
        rintro e w8 ⟨rfl, S⟩
        clear M d0 d1 d2 d3 d4 d5 d6 d7 d8 hx20
        clear hm F2
        replace S : Sep w (boxR x20 (.cells #[.int .i64 4, .int .i64 tn, .string ⟨#[]⟩] 31) :: valsR (.slice ya j yc) (XS j) :: boxR x10 (.cells #[.int .i64 v.kind, .int .i64 v.n, .string v.s] 31) :: boxR x8 (.cells #[.int .i64 4, .int .i64 (L + 19), .string ⟨#[]⟩] 31) :: valsR (.slice oa l.length oc) l :: heapR h (H.add (tupleO (XS j))) :: boxR b (.cells #[.int .i64 a, .slice ba svs.length bc, .slice ia I.length ic] 46) :: []) _ := S
        obtain ⟨x22, hx22⟩ : ∃ gx_, (w8.heap.size) = gx_ := ⟨_, rfl⟩
        replace S := (S.alloc (.cells #[.string ⟨#[]⟩, .int .i64 0, .int .i64 0, .string ⟨#[]⟩, .bool false] 35))
        simp only [World.size_alloc, hx22] at S
        replace S : Sep w (boxR x22 (.cells #[.string ⟨#[]⟩, .int .i64 0, .int .i64 0, .string ⟨#[]⟩, .bool false] 35) :: boxR x20 (.cells #[.int .i64 4, .int .i64 tn, .string ⟨#[]⟩] 31) :: valsR (.slice ya j yc) (XS j) :: boxR x10 (.cells #[.int .i64 v.kind, .int .i64 v.n, .string v.s] 31) :: boxR x8 (.cells #[.int .i64 4, .int .i64 (L + 19), .string ⟨#[]⟩] 31) :: valsR (.slice oa l.length oc) l :: heapR h (H.add (tupleO (XS j))) :: boxR b (.cells #[.int .i64 a, .slice ba svs.length bc, .slice ia I.length ic] 46) :: []) _ := S
        have M := Lib.hid (raised_ok S HGL.out)
        clear S
        go_wp2_with fail
        try simp only [hx22]
        refine M.out.mono ?_
        rintro e w9 ⟨rfl, S⟩
        clear M hx22
        replace S : Sep w (boxR x22 (.cells #[.string ⟨#[]⟩, .int .i64 0, .int .i64 0, .string ⟨#[]⟩, .bool false] 35) :: boxR x20 (.cells #[.int .i64 4, .int .i64 tn, .string ⟨#[]⟩] 31) :: valsR (.slice ya j yc) (XS j) :: boxR x10 (.cells #[.int .i64 v.kind, .int .i64 v.n, .string v.s] 31) :: boxR x8 (.cells #[.int .i64 4, .int .i64 (L + 19), .string ⟨#[]⟩] 31) :: valsR (.slice oa l.length oc) l :: heapR h (H.add (tupleO (XS j))) :: boxR b (.cells #[.int .i64 a, .slice ba svs.length bc, .slice ia I.length ic] 46) :: []) _ := S
        have z0 := cellAt (S.box (b := x22) 0 rfl) 0 (v := .string ⟨#[]⟩) rfl
        have HS := Lib.hid S.below
        clear S
        cases sm with
        | false =>
          go_wp2
          go_ret
          exact ⟨rfl, HS.out⟩
        | true =>
          go_wp2
          go_ret
          exact ⟨rfl, HS.out⟩
theorem witness_row (os : Os) {H : Type} (enc : TypeId × Value → H) :
    (OpenSpec.ofChange Rows.faultTuplesSpec).preRow enc Tryd.prog Tryd.f5 Rows.faultTuplesRow.domain false Rows.faultTuplesRow.laid ((laidWorld os).forCall (fun _ _ => 0) ⟨#[], #[.agg #[.int .i64 0, .slice none 0 0, .slice none 0 0], .int .i64 0, .slice none 0 0], []⟩).memory #[.agg #[.int .i64 0, .slice none 0 0, .slice none 0 0], .int .i64 0, .slice none 0 0] := by
  have hw : (DataW.whole enc Tryd.prog ((laidWorld os).forCall (fun _ _ => 0) ⟨#[], #[.agg #[.int .i64 0, .slice none 0 0, .slice none 0 0], .int .i64 0, .slice none 0 0], []⟩).memory Tryd.f5.params.toList (OpenSpec.ofChange Rows.faultTuplesSpec).vars false #[.agg #[.int .i64 0, .slice none 0 0, .slice none 0 0], .int .i64 0, .slice none 0 0].toList 8).map (fun x => (x.1, x.2.1)) =
      some ([.agg [.lit (.int .i64 0), .nil, .nil], .lit (.int .i64 0), .nil], []) := by kernel_rfl
  obtain ⟨⟨x1, x2, x3⟩, hx, hx1⟩ := Option.map_eq_some_iff.1 hw
  simp only [Prod.mk.injEq] at hx1
  obtain ⟨rfl, rfl⟩ := hx1
  exact OpenSpec.preRow_of_cond 8 hx (by kernel_rfl) (fun k hk => by cases hk) (by kernel_rfl) (laid_met os _)
set_option maxRecDepth 100000 in
theorem lifted (os : Os) (started : os.Started) (H : Type) (enc : TypeId × Value → H) (F : Stop.Interp) :
    ReturnsInHanded {} Tryd.checked os 5 .any ((OpenSpec.ofChange Rows.faultTuplesSpec).preRow enc Tryd.prog Tryd.f5 Rows.faultTuplesRow.domain false Rows.faultTuplesRow.laid) (((OpenSpec.ofChange Rows.faultTuplesSpec).at F).post enc Tryd.prog Tryd.f5 false true false false) := by
  refine law_lift_laid (C := Tryd.checked) own started (by kernel_rfl) Tryd.func5
    (witness_row_atRef (enc := enc) (C := Tryd.checked) false (laidWorld os) #[.agg #[.int .i64 0, .slice none 0 0, .slice none 0 0], .int .i64 0, .slice none 0 0] rfl (by kernel_rfl) (by kernel_rfl) (by kernel_rfl) (witness_row os enc))
    (by kernel_rfl) (by kernel_rfl) rfl (fun ds h => by
      match ds, h with
      | [d1, d2, d3], _ => exact ⟨rfl, rfl, rfl⟩) rfl Tryd.underlying4 ?_
  intro W base args ds ps hval hA hlt hwt hL hsh
  rw [Tryd.params5] at hA hval
  obtain ⟨v0, vs0, d0, ds0, p0, q0, hargs, rfl, rfl, h0, r0⟩ := trodAll_cons hA
  obtain ⟨v1, vs1, d1, ds1, p1, q1, rfl, rfl, rfl, h1, r1⟩ := trodAll_cons r0
  obtain ⟨v2, vs2, d2, ds2, p2, q2, rfl, rfl, rfl, h2, r2⟩ := trodAll_cons r1
  obtain ⟨rfl, rfl, rfl⟩ := trodAll_nil r2
  obtain rfl : args = #[v0, v1, v2] := by cases args; simp_all
  obtain ⟨cs0, rfl, hsz0⟩ := okWide_struct Tryd.underlying46 (hval 0 46 v0 rfl rfl)
  obtain ⟨fuel0, hf0⟩ := h0
  obtain ⟨a, ba, bc, svs, B, ia, ic, I, e0, _, hP⟩ := open_plan (cs := cs0.toList) hf0
  obtain rfl : cs0 = [.int .i64 a, .slice ba svs.length bc, .slice ia I.length ic].toArray := by rw [← e0]
  obtain ⟨i, rfl, rfl, rfl, w1⟩ := open_int Tryd.underlying3 (hval 1 3 v1 rfl rfl) h1
  obtain ⟨pa, pn, pc, rfl⟩ := okWide_slice Tryd.underlying44 (hval 2 44 v2 rfl rfl)
  obtain ⟨fuel2, hf2⟩ := h2
  obtain ⟨pk, sk, _⟩ := open_intsF (v := .slice pa pn pc) hf2
  have sk2 := sk
  obtain ⟨_, _, ek, _⟩ := sk2
  obtain ⟨rfl, rfl, rfl⟩ := Value.slice.inj ek
  exact walk_at W (globF hL hsh) hP a i pk _ _ fun W2 hW2 => sk.keep fun p v hp => cellBelow hp hW2
theorem said : Rows.FaultTuplesSaid :=
  OpenClaim.holds_of_cond 5 Tryd.f5 rfl rfl rfl rfl rfl rfl rfl ⟨rfl, rfl, rfl, rfl, rfl⟩ rfl rfl rfl rfl rfl (by kernel_rfl) Tryd.func5 (by kernel_rfl)
    (of_decide_eq_true (by kernel_rfl)) (by unfold Func.isWrapper; first | (rw [if_pos (by decide +kernel)]; kernel_rfl) | (rw [if_neg (by decide +kernel)]; exact ⟨rfl, rfl⟩))
    (fun os started H enc _ F => by rw [OpenClaim.pre_eq_preRow]; exact lifted os started H enc F)
theorem plain (f : FuncId) (fn : Func) (hf : Tryd.pinned.checked.prog.funcNamed "krait/kraitlaw15.FaultTuples" = some f) (hfn : Tryd.pinned.checked.prog.funcs[f]? = some fn) :
    false = Tryd.pinned.checked.prog.looks [] ∧ ∀ (j : Nat) t, fn.params[j]? = some t → Tryd.pinned.checked.prog.wantsStandIn t = false := by
  obtain rfl : f = 5 := Option.some.inj ((show Tryd.prog.funcNamed "krait/kraitlaw15.FaultTuples" = some 5 by kernel_rfl).symm.trans hf) |>.symm
  obtain rfl : fn = Tryd.f5 := (Option.some.inj (Tryd.func5.symm.trans hfn)).symm
  refine ⟨by kernel_rfl, fun j t ht => ?_⟩
  rw [Tryd.params5] at ht
  have hm := Array.mem_of_getElem? ht
  simp at hm
  rcases hm with rfl | rfl | rfl
  · exact (show Tryd.prog.wantsStandIn 46 = false by kernel_rfl)
  · exact (show Tryd.prog.wantsStandIn 3 = false by kernel_rfl)
  · exact (show Tryd.prog.wantsStandIn 44 = false by kernel_rfl)
theorem proved : Rows.FaultTuplesCardSaid :=
  Claim7.holds_tied_plain_at .later [] _ _ _ _ said (fun _ h => by cases h) (by kernel_rfl) (fun _ h => by cases h) faultTuples_row_tie rfl ⟨rfl, rfl⟩ (by kernel_rfl) rfl plain (by kernel_rfl)
#print axioms proved
end Go.Proofs.YtobcnffjfclolaaDoor.faultTuples

