/-
  FaultOwn: for any plan (of a size that is looked at) the law returns true: a class that is made of another one is an exception's class just if that one is, and its instances match it. No condition.
-/
import Derived.Test.YtobcnffjfclolaaDoorFaultT
import Derived.Test.YtobcnffjfclolaaDoorFaultP
import Derived.Test.YtobcnffjfclolaaDoorRegI
import Derived.Test.YtobcnffjfclolaaDoorLaid
namespace Go.Proofs.YtobcnffjfclolaaDoor.faultOwn
set_option linter.unusedSimpArgs false
open Go.ChangeShapes Go.WideShapes Go.ChangeAt Go.RowKit
set_option linter.unusedVariables false
section
variable {w W : World} {Rs : List Res} {h : Nat} {H : HeapM}
def ownS : ByteArray := ⟨#[79, 119, 110]⟩
theorem ownS_le : ownS.size ≤ maxLen := by decide
/-- What the class and the instance are like that are made of a class. -/
structure OwnF (D2 : HeapM) (c v bn x : V) (t : Bool) : Prop where
  fit : D2.Fit 5600
  cls : D2.isClass c = true
  fit3 : (D2.add (instO (D2.name c) (HeapM.name_le _ _) c)).Fit 5700
  isC : (D2.add (instO (D2.name c) (HeapM.name_le _ _) c)).isClsF bn c = t
  isX : (D2.add (instO (D2.name c) (HeapM.name_le _ _) c)).isClsF bn x = t
  isV : (D2.add (instO (D2.name c) (HeapM.name_le _ _) c)).isF bn v = t
  mt : (D2.add (instO (D2.name c) (HeapM.name_le _ _) c)).matchF bn v x = if t = true then some true else none
theorem own_cls {l : List V} {L : Int} (C : LaidC H l L) {x : V} (hx : H.isClass x = true) (hr : x = x.asRef) (h1 : okI (H.last + 1)) (h2 : okI (H.last + 2)) (h3 : okI (H.last + 3)) (hb : okI (L + 19)) :
    ∃ D2 : HeapM, (H.add dictO).mkClass ownS ownS_le [x] (V.ref (H.last + 1) h1) = some D2 ∧ D2.last = H.last + 2 ∧ ∃ t, OwnF D2 (V.ref (H.last + 2) h2) (V.ref (H.last + 3) h3) (V.ref (L + 19) hb) x t := by
  have hrg := C.rng
  have hla := C.last
  have FD : (H.add dictO).Fit 5202 := C.fit.addP dictO (by decide) rfl (by simp [dictO])
  have CD : (H.add dictO).Cls := C.cls.add C.fit.G dictO (fun h => by exact absurd h (by decide))
  have BD : BootIn (H.add dictO) L := C.boot.add C.fit.G dictO
  have hlD : (H.add dictO).last = H.last + 1 := rfl
  have hxD : (H.add dictO).isClass x = true := class_add C.fit.G _ hx
  have e : (H.add dictO).c3 [x] = some ((H.add dictO).ordN x) := HeapM.c3_one CD hxD
  have hsp : (H.add dictO).of (V.ref (H.last + 1) h1) = some dictO := add_of_new C.fit.G _ h1
  have hp : (H.add dictO).pairs (V.ref (H.last + 1) h1) = [] := by unfold HeapM.pairs; rw [hsp]; rfl
  have hk : (H.add dictO).kind (V.ref (H.last + 1) h1) = 3 := by unfold HeapM.kind; rw [hsp]; rfl
  have hb1 : ∀ b ∈ [x], b = b.asRef := fun b hb => by simp only [List.mem_singleton] at hb; subst hb; exact hr
  have F2 := FD.made (s := ownS) (hs := ownS_le) (M := 5600) e (V.ref (H.last + 1) h1) (by rw [hp, hlD]; simp; omega)
  have C2 := CD.made FD.G (s := ownS) (hs := ownS_le) hb1 e ((H.add dictO).pairs (V.ref (H.last + 1) h1))
  refine ⟨_, mkClass_of e hk, by show (H.add dictO).last + 1 = _; rw [hlD]; omega, ?_⟩
  obtain ⟨D, hD⟩ : ∃ gx_, (H.add dictO) = gx_ := ⟨_, rfl⟩
  rw [hD] at FD CD BD hlD hxD e hsp hp hk F2 C2 ⊢
  rw [hp] at F2 C2 ⊢
  have hn2 : okI (D.last + 1) := okI_of (by rw [hlD]; omega)
  have e2 : V.ref (H.last + 2) h2 = V.ref (D.last + 1) hn2 := ref_eq (by rw [hlD]; omega)
  have hof := add_of_new FD.G (classO ownS ownS_le (D.ordN x) []) hn2
  have O2 : Olds D (D.add (classO ownS ownS_le (D.ordN x) [])) := olds_add FD.G _
  have B2 := BD.add FD.G (classO ownS ownS_le (D.ordN x) [])
  have hl2 : (D.add (classO ownS ownS_le (D.ordN x) [])).last = H.last + 2 := by show D.last + 1 = _; rw [hlD]; omega
  have hit : (classO ownS ownS_le (D.ordN x) []).items = D.order x := by
    show (D.ordN x).map refN = D.order x
    unfold HeapM.ordN
    rw [List.map_map]
    conv => rhs; rw [← List.map_id (D.order x)]
    exact List.map_congr_left fun y hy => refN_of (CD.order_mem hy).2.2.1
  rw [e2]
  obtain ⟨D2, hD2⟩ : ∃ gx_, (D.add (classO ownS ownS_le (D.ordN x) [])) = gx_ := ⟨_, rfl⟩
  rw [hD2] at F2 C2 hof O2 B2 hl2 ⊢
  have hcls : D2.isClass (V.ref (D.last + 1) hn2) = true := by unfold HeapM.isClass HeapM.kind; rw [hof]; rfl
  have hci : D2.items (V.ref (D.last + 1) hn2) = D.order x := by unfold HeapM.items; rw [hof]; exact hit
  have hcr : V.ref (D.last + 1) hn2 = (V.ref (D.last + 1) hn2).asRef := rfl
  obtain ⟨c, hc⟩ : ∃ gx_, (V.ref (D.last + 1) hn2) = gx_ := ⟨_, rfl⟩
  have hcn : c.n = H.last + 2 := by rw [← hc]; show D.last + 1 = _; rw [hlD]; omega
  rw [hc] at hcls hci hcr ⊢
  clear hof
  have F3 : (D2.add (instO (D2.name c) (HeapM.name_le _ _) c)).Fit 5700 := F2.addP _ ⟨by show (1 : Int) ≤ 6; decide, by show (6 : Int) ≤ 12; decide⟩ rfl (by simp [instO])
  have C3 : (D2.add (instO (D2.name c) (HeapM.name_le _ _) c)).Cls := C2.add F2.G _ fun h => (by cases h)
  have B3 := B2.add F2.G (instO (D2.name c) (HeapM.name_le _ _) c)
  have O3 : Olds D2 (D2.add (instO (D2.name c) (HeapM.name_le _ _) c)) := olds_add F2.G _
  have hn3 : okI (D2.last + 1) := okI_of (by rw [hl2]; omega)
  have e3 : V.ref (H.last + 3) h3 = V.ref (D2.last + 1) hn3 := ref_eq (by rw [hl2]; omega)
  have hof3 := add_of_new F2.G (instO (D2.name c) (HeapM.name_le _ _) c) hn3
  rw [e3]
  have hcl3 : (D2.add (instO (D2.name c) (HeapM.name_le _ _) c)).isClass c = true := class_add F2.G _ hcls
  have hxl3 : (D2.add (instO (D2.name c) (HeapM.name_le _ _) c)).isClass x = true := class_add F2.G _ (by rw [(O2.kind (class_some hxD)).2.2.2.2]; exact hxD)
  have hord3 : (D2.add (instO (D2.name c) (HeapM.name_le _ _) c)).order c = c :: D.order x := by
    rw [O3.order C2 C3 (class_some hcls), C2.order hcls, hci, ← hcr]
  have hordx : (D2.add (instO (D2.name c) (HeapM.name_le _ _) c)).order x = D.order x := by
    rw [O3.order C2 C3 (by rw [O2.of x _ (Option.isSome_iff_exists.1 (class_some hxD)).choose_spec]; rfl), O2.order CD C2 (class_some hxD)]
  have hofv : (D2.add (instO (D2.name c) (HeapM.name_le _ _) c)).ofM (V.ref (D2.last + 1) hn3) = some c := by
    have hk6 : (D2.add (instO (D2.name c) (HeapM.name_le _ _) c)).kind (V.ref (D2.last + 1) hn3) = 6 := by unfold HeapM.kind; rw [hof3]; rfl
    have hat : ((D2.add (instO (D2.name c) (HeapM.name_le _ _) c)).at (V.ref (D2.last + 1) hn3) 0).getD V.zero = c := by
      unfold HeapM.at HeapM.items
      rw [hof3, if_pos (by decide)]
      exact hcr.symm
    unfold HeapM.ofM
    rw [hat, if_pos ⟨hk6, hcl3⟩, ← hcr]
  refine ⟨(D2.add (instO (D2.name c) (HeapM.name_le _ _) c)).isClsF (V.ref (L + 19) hb) x, F2, hcls, F3, ?_, rfl, ?_, ?_⟩
  · rw [B3.isCls ⟨by omega, by omega⟩ hb, B3.isCls ⟨by omega, by omega⟩ hb]
    unfold HeapM.subM
    rw [hord3, hordx]
    have hne : ¬ (refN (L + 2)).asRef = c := fun h => by
      have h9 := congrArg V.n h
      rw [refN_ok (okI_of ⟨by omega, by omega⟩), hcn] at h9
      have h10 : L + 2 = H.last + 2 := h9
      omega
    congr 1
    simp [hne]
  · unfold HeapM.isF
    rw [hofv]
    simp only
    rw [B3.isCls ⟨by omega, by omega⟩ hb, B3.isCls ⟨by omega, by omega⟩ hb]
    unfold HeapM.subM
    rw [hord3, hordx]
    have hne : ¬ (refN (L + 2)).asRef = c := fun h => by
      have h9 := congrArg V.n h
      rw [refN_ok (okI_of ⟨by omega, by omega⟩), hcn] at h9
      have h10 : L + 2 = H.last + 2 := h9
      omega
    congr 1
    simp [hne]
  · have hF : (D2.add (instO (D2.name c) (HeapM.name_le _ _) c)).isF (V.ref (L + 19) hb) (V.ref (D2.last + 1) hn3) = (D2.add (instO (D2.name c) (HeapM.name_le _ _) c)).isClsF (V.ref (L + 19) hb) x := by
      unfold HeapM.isF
      rw [hofv]
      simp only
      rw [B3.isCls ⟨by omega, by omega⟩ hb, B3.isCls ⟨by omega, by omega⟩ hb]
      unfold HeapM.subM
      rw [hord3, hordx]
      have hne : ¬ (refN (L + 2)).asRef = c := fun h => by
        have h9 := congrArg V.n h
        rw [refN_ok (okI_of ⟨by omega, by omega⟩), hcn] at h9
        have h10 : L + 2 = H.last + 2 := h9
        omega
      congr 1
      simp [hne]
    unfold HeapM.matchF
    rw [cands_cls hxl3]
    cases ht : (D2.add (instO (D2.name c) (HeapM.name_le _ _) c)).isClsF (V.ref (L + 19) hb) x with
    | false => rw [if_neg (by simp [ht])]; rfl
    | true =>
      rw [if_pos (by simp [ht]), if_pos rfl]
      unfold HeapM.hitF
      rw [hF, ht, hofv]
      have hs : (D2.add (instO (D2.name c) (HeapM.name_le _ _) c)).subM c x = true := by
        unfold HeapM.subM
        rw [hxl3, hord3, CD.order hxD]
        simp
      simp [hs]
/-- What Class makes, both ways. -/
structure OwnC (D D2 : HeapM) (cv : V) (en : ByteArray) (x sp : V) : Prop where
  got : (D.mkClass ownS ownS_le [x] sp = some D2 ∧ en = ⟨#[]⟩ ∧ cv.val = .agg #[.int .i64 4, .int .i64 (D.last + 1), .string ⟨#[]⟩]) ∨ (D.mkClass ownS ownS_le [x] sp = none ∧ D2 = D ∧ en = typeError ∧ cv = V.zero)
theorem own_no {l : List V} {L : Int} (C : LaidC H l L) {x c0 : V} (hx : H.ofM x = some c0) (sp : V) : (H.add dictO).mkClass ownS ownS_le [x] sp = none ∧ (H.add dictO).kind x = 6 := by
  have hk : H.kind x = 6 := by
    unfold HeapM.ofM at hx
    by_cases h : H.kind x = 6 ∧ H.isClass ((H.at x 0).getD V.zero) = true
    · exact h.1
    · rw [if_neg h] at hx; cases hx
  have hle := kind_le C.fit.G (v := x) (by omega)
  have hk2 : (H.add dictO).kind x = 6 := by rw [kind_add C.fit.G, if_neg (by omega)]; exact hk
  refine ⟨mkClass_no ?_, hk2⟩
  unfold HeapM.c3
  rw [if_neg]
  unfold HeapM.isClass
  simp [hk2]
/-- All that the walk needs of what is picked. -/
structure OwnK (D D2 : HeapM) (cv : V) (en : ByteArray) (x sp : V) (cn : Int) (bn v : V) : Prop where
  got : OwnC D D2 cv en x sp
  way : (en = ⟨#[]⟩ ∧ cv.val = .agg #[.int .i64 4, .int .i64 cn, .string ⟨#[]⟩] ∧ ∃ (hc : okI cn) (t : Bool), OwnF D2 (V.ref cn hc) v bn x t ∧ D2.last = cn) ∨ (en = typeError ∧ cv = V.zero ∧ D2.kind x = 6)
theorem own_k {l : List V} {L : Int} (C : LaidC H l L) {x : V} (hx : H.ClsOr x) (h1 : okI (H.last + 1)) (h2 : okI (H.last + 2)) (h3 : okI (H.last + 3)) (hb : okI (L + 19)) :
    ∃ (D2 : HeapM) (cv : V) (en : ByteArray), OwnK (H.add dictO) D2 cv en x (V.ref (H.last + 1) h1) (H.last + 2) (V.ref (L + 19) hb) (V.ref (H.last + 3) h3) := by
  rcases hx.2 with h | ⟨c0, h, _⟩
  · obtain ⟨D2, e1, e2, t, e3⟩ := own_cls C h hx.1 h1 h2 h3 hb
    have e4 : (V.ref (H.last + 2) h2).val = .agg #[.int .i64 4, .int .i64 ((H.add dictO).last + 1), .string ⟨#[]⟩] := by
      show Value.agg _ = Value.agg _
      have : (H.add dictO).last + 1 = H.last + 2 := by show H.last + 1 + 1 = _; omega
      rw [this]; rfl
    exact ⟨D2, V.ref (H.last + 2) h2, ⟨#[]⟩, ⟨.inl ⟨e1, rfl, e4⟩⟩, .inl ⟨rfl, rfl, h2, t, e3, e2⟩⟩
  · obtain ⟨e1, e2⟩ := own_no C h (V.ref (H.last + 1) h1)
    exact ⟨H.add dictO, V.zero, typeError, ⟨.inr ⟨e1, rfl, rfl, rfl⟩⟩, .inr ⟨rfl, rfl, e2⟩⟩
theorem kw_class {D D2 : HeapM} {cv : V} {en : ByteArray} {x : V} {sn : Int} {hsn : okI sn} (K : OwnC D D2 cv en x (V.ref sn hsn)) (S : Sep w Rs W) (j : Nat) (hj : Rs[j]? = some (heapR h D)) (F : D.Fit 5202) (q i : Nat) (hi : Rs[i]? = some (valB q x)) :
    Calls Tryd.prog 25 #[.pointer (some ⟨h, 0, none⟩), .string ⟨#[79, 119, 110]⟩, .slice (some ⟨q, 0, none⟩) 1 1, .agg #[.int .i64 4, .int .i64 sn, .string ⟨#[]⟩]] W fun e W' => e = .returned (.tuple #[.agg #[.int .i64 cv.kind, .int .i64 cv.n, .string cv.s], .agg #[.string en, .int .i64 0, .int .i64 0, .string ⟨#[]⟩, .bool false]]) ∧ Sep w (Rs.set j (heapR h D2)) W' := by
  have := class_ok S j hj F ownS ownS_le (some ⟨q, 0, none⟩) 1 [x] (fun W' S' => seesV_oneF x (S'.box i hi)) (V.ref sn hsn) (by simp)
  rcases K.got with ⟨e1, e2, e3⟩ | ⟨e1, e2, e3, e4⟩
  · rw [e1] at this
    refine this.mono fun e W' hd => ?_
    unfold ClassDone at hd
    simp only at hd
    subst e2
    have e5 : Value.agg #[.int .i64 cv.kind, .int .i64 cv.n, .string cv.s] = .agg #[.int .i64 4, .int .i64 (D.last + 1), .string ⟨#[]⟩] := e3
    rw [e5]
    exact hd
  · rw [e1] at this
    refine this.mono fun e W' hd => ?_
    unfold ClassDone at hd
    simp only at hd
    subst e2 e3 e4
    rw [Sep.setSame hj]
    exact hd
theorem kw_make (S : Sep w Rs W) (j : Nat) (hj : Rs[j]? = some (heapR h H)) {N : Nat} (F : H.Fit N) (hN : N + 1 ≤ 4000000) (sn : Int) (hs : H.last + 1 = sn) :
    Calls Tryd.prog 24 #[.pointer (some ⟨h, 0, none⟩), .int .i64 3, .string ⟨#[]⟩, .int .i64 0, .slice none 0 0] W fun e W' => e = .returned (.agg #[.int .i64 4, .int .i64 sn, .string ⟨#[]⟩]) ∧ Sep w (Rs.set j (heapR h (H.add dictO))) W' := by
  subst hs
  exact (S.make j hj F.G hN dictO (.slice none 0 0) (seesV_nilF _) (by simp [dictO]) rfl (by simp [dictO]) (by simp [dictO])).mono fun e W' hh => ⟨hh.1, hh.2⟩
theorem kw_inst {D : HeapM} (S : Sep w Rs W) (j : Nat) (hj : Rs[j]? = some (heapR h D)) {N : Nat} (F : D.Fit N) (hN : N + 1 ≤ 4000000) (cn vn : Int) (hc : okI cn) (hcl : D.isClass (V.ref cn hc) = true) (hl : D.last + 1 = vn) :
    Calls Tryd.prog 27 #[.pointer (some ⟨h, 0, none⟩), .agg #[.int .i64 4, .int .i64 cn, .string ⟨#[]⟩]] W fun e W' => e = .returned (.tuple #[.agg #[.int .i64 4, .int .i64 vn, .string ⟨#[]⟩], .bool true]) ∧ Sep w (Rs.set j (heapR h (D.add (instO (D.name (V.ref cn hc)) (HeapM.name_le _ _) (V.ref cn hc))))) W' := by
  subst hl
  exact instance_ok S j hj F hN (V.ref cn hc) (HeapM.name_le _ _) hcl
theorem kw_is {H : HeapM} (S : Sep w Rs W) (j : Nat) (hj : Rs[j]? = some (heapR h H)) {N : Nat} (G : H.Good N) (hN : N ≤ 4000000) (bn v : V) (d : Bool) (hd : H.isF bn v = d) :
    Calls Tryd.prog 29 #[.pointer (some ⟨h, 0, none⟩), .agg #[.int .i64 bn.kind, .int .i64 bn.n, .string bn.s], .agg #[.int .i64 v.kind, .int .i64 v.n, .string v.s]] W fun e W' => e = .returned (.bool d) ∧ Sep w Rs W' := by
  have := fis_ok S j hj G hN bn v
  rw [hd] at this; exact this
theorem kw_cls {H : HeapM} (S : Sep w Rs W) (j : Nat) (hj : Rs[j]? = some (heapR h H)) {N : Nat} (G : H.Good N) (hN : N ≤ 4000000) (bn v : V) (d : Bool) (hd : H.isClsF bn v = d) :
    Calls Tryd.prog 28 #[.pointer (some ⟨h, 0, none⟩), .agg #[.int .i64 bn.kind, .int .i64 bn.n, .string bn.s], .agg #[.int .i64 v.kind, .int .i64 v.n, .string v.s]] W fun e W' => e = .returned (.bool d) ∧ Sep w Rs W' := by
  have := fiscls_ok S j hj G hN bn v
  rw [hd] at this; exact this
theorem kw_match {H : HeapM} (S : Sep w Rs W) (j : Nat) (hj : Rs[j]? = some (heapR h H)) {N : Nat} (G : H.Good N) (hN : N ≤ 4000000) (bn v cl : V) (m : Option Bool) (hm : H.matchF bn v cl = m) (r : Bool) (s : ByteArray) (hr : m.getD false = r) (hs : excM m = s) :
    Calls Tryd.prog 19 #[.pointer (some ⟨h, 0, none⟩), .agg #[.int .i64 bn.kind, .int .i64 bn.n, .string bn.s], .agg #[.int .i64 v.kind, .int .i64 v.n, .string v.s], .agg #[.int .i64 cl.kind, .int .i64 cl.n, .string cl.s]] W fun e W' => e = .returned (.tuple #[.bool r, .agg #[.string s, .int .i64 0, .int .i64 0, .string ⟨#[]⟩, .bool false]]) ∧ Sep w Rs W' := by
  have := matches_ok S j hj G hN bn v cl
  rw [hm] at this
  subst hr hs
  exact this
end
set_option maxRecDepth 100000 in
set_option maxHeartbeats 12800000 in
theorem walk_at (w : World) (hG : GlobF w) {ba ia : Option Addr} {bc ic : Nat} {svs : List SlV} {B : List (List Int)} {I : List Int} (P : PlanIn w ba bc svs B ia ic I) (a : Int) (i : Int) :
    Calls Tryd.prog 6 #[.agg #[.int .i64 a, .slice ba svs.length bc, .slice ia I.length ic], .int .i64 i] w fun e W' => e = .returned (.bool true) ∧ Below w.heap.size w W' := by
  have HGL := Lib.hid hG
  have HP := Lib.hid P
  obtain ⟨b, hb⟩ : ∃ gx_, (w.heap.size) = gx_ := ⟨_, rfl⟩
  have S := (Sep.start (Below.refl w.heap.size w)).alloc (.cells #[.int .i64 a, .slice ba svs.length bc, .slice ia I.length ic] 46)
  simp only [World.size_alloc, hb] at S
  replace S : Sep w (boxR b (.cells #[.int .i64 a, .slice ba svs.length bc, .slice ia I.length ic] 46) :: []) _ := S
  have M0 := Lib.hid ((Big_ok P S.below a).mono fun e W1 (hh : BigDone _ a B I e W1) => (by obtain ⟨r, h1, h2, h3⟩ := hh; exact ⟨r, h1, S.later h2, h3⟩ : ∃ r : Bool, e = .returned (.bool r) ∧ Sep w (boxR b (.cells #[.int .i64 a, .slice ba svs.length bc, .slice ia I.length ic] 46) :: []) W1 ∧ (r = false → a ≤ 20 ∧ B.length ≤ 20 ∧ (∀ r ∈ B, r.length ≤ 6) ∧ I.length ≤ 20)))
  have d0 := cellAt (S.box (b := b) 0 rfl) 0 (v := .int .i64 a) rfl
  have d1 := cellAt (S.box (b := b) 0 rfl) 1 (v := .slice ba svs.length bc) rfl
  have d2 := cellAt (S.box (b := b) 0 rfl) 2 (v := .slice ia I.length ic) rfl
  clear S P hG
  go_enter Tryd.func6, Tryd.ntmps6
  go_wp2_with fail
  try simp only [hb]
  refine M0.out.mono ?_
  rintro e w1 ⟨r, rfl, S, D⟩
  clear M0 hb d0 d1 d2
  cases r with
  | true =>
    have HS := Lib.hid S.below
    clear S D
    go_wp2
    go_ret
    exact ⟨rfl, HS.out⟩
  | false =>
    have D := D rfl
    have d0 := cellAt (S.box (b := b) 0 rfl) 0 (v := .int .i64 a) rfl
    have d1 := cellAt (S.box (b := b) 0 rfl) 1 (v := .slice ba svs.length bc) rfl
    have d2 := cellAt (S.box (b := b) 0 rfl) 2 (v := .slice ia I.length ic) rfl
    have M := Lib.hid (laid_all S HGL.out HP.out a D)
    clear S
    go_wp2_with fail
    refine M.out.mono ?_
    rintro e w2 ⟨h, oa, oc, H, l, L, rfl, C, S⟩
    clear M d0 d1 d2
    clear HP D
    replace S : Sep w (valsR (.slice oa l.length oc) l :: heapR h H :: boxR b (.cells #[.int .i64 a, .slice ba svs.length bc, .slice ia I.length ic] 46) :: []) _ := S
    obtain ⟨x6, hx6⟩ : ∃ gx_, (w2.heap.size) = gx_ := ⟨_, rfl⟩
    replace S := (S.alloc (.cells #[.int .i64 4, .int .i64 (L + 19), .string ⟨#[]⟩] 31))
    simp only [World.size_alloc, hx6] at S
    replace S : Sep w (boxR x6 (.cells #[.int .i64 4, .int .i64 (L + 19), .string ⟨#[]⟩] 31) :: valsR (.slice oa l.length oc) l :: heapR h H :: boxR b (.cells #[.int .i64 a, .slice ba svs.length bc, .slice ia I.length ic] 46) :: []) _ := S
    have HC := Lib.hid C
    have hb19 : okI (L + 19) := okI_of (by have := C.rng; omega)
    clear C
    have hl17 : ¬ l.length = 0 := by have := HC.out.len; omega
    have hl60 : (l.length : Int) ≤ 60 := by have := HC.out.len; omega
    have CP := Pick_ok _ _ l i (S.row 1 rfl).sees'
    have hmem := HC.out.all _ (pickL_mem (fun e => hl17 (by rw [e]; rfl)) i)
    obtain ⟨x, hx⟩ : ∃ gx_, (pickL l i) = gx_ := ⟨_, rfl⟩
    rw [hx] at CP hmem
    have HX := Lib.hid hmem
    clear hx hmem
    replace CP := Lib.hid (CP.mono fun e W1 (hh : _ ∧ _) => (⟨hh.1, S.later hh.2⟩ : _ ∧ Sep w (boxR x6 (.cells #[.int .i64 4, .int .i64 (L + 19), .string ⟨#[]⟩] 31) :: valsR (.slice oa l.length oc) l :: heapR h H :: boxR b (.cells #[.int .i64 a, .slice ba svs.length bc, .slice ia I.length ic] 46) :: []) W1))
    simp only [V.val] at CP
    clear S
    go_wp2_with fail
    try simp only [hx6]
    refine CP.out.mono ?_
    rintro e w4 ⟨rfl, S⟩
    clear CP hl17 hx6
    obtain ⟨x8, hx8⟩ : ∃ gx_, (w4.heap.size) = gx_ := ⟨_, rfl⟩
    replace S := (S.alloc (.cells #[.int .i64 x.kind, .int .i64 x.n, .string x.s] 31))
    simp only [World.size_alloc, hx8] at S
    replace S : Sep w (boxR x8 (.cells #[.int .i64 x.kind, .int .i64 x.n, .string x.s] 31) :: boxR x6 (.cells #[.int .i64 4, .int .i64 (L + 19), .string ⟨#[]⟩] 31) :: valsR (.slice oa l.length oc) l :: heapR h H :: boxR b (.cells #[.int .i64 a, .slice ba svs.length bc, .slice ia I.length ic] 46) :: []) _ := S
    obtain ⟨sn, hsn⟩ : ∃ sn, H.last + 1 = sn := ⟨_, rfl⟩
    obtain ⟨cn, hcn⟩ : ∃ cn, H.last + 2 = cn := ⟨_, rfl⟩
    obtain ⟨vn, hvn⟩ : ∃ vn, H.last + 3 = vn := ⟨_, rfl⟩
    have hos : okI sn := okI_of (by have := HC.out.last; have := HC.out.rng; omega)
    have hov : okI vn := okI_of (by have := HC.out.last; have := HC.out.rng; omega)
    obtain ⟨D, hD⟩ : ∃ D, H.add dictO = D := ⟨_, rfl⟩
    obtain ⟨D2, cv, en, OK⟩ : ∃ (D2 : HeapM) (cv : V) (en : ByteArray), OwnK D D2 cv en x (V.ref sn hos) cn (V.ref (L + 19) hb19) (V.ref vn hov) := by
      subst hsn hcn hvn hD
      exact own_k HC.out HX.out hos (okI_of (by have := HC.out.last; have := HC.out.rng; omega)) hov hb19
    have FD : D.Fit 5202 := by rw [← hD]; exact HC.out.fit.addP dictO (by decide) rfl (by simp [dictO])
    have HD := Lib.hid (And.intro hsn (And.intro hD (And.intro FD (And.intro hcn hvn))))
    have HOK := Lib.hid OK
    clear hsn hcn hvn hD OK FD
    obtain ⟨baseA, hbaseA⟩ : ∃ base, base = boxR x8 (.cells #[.int .i64 x.kind, .int .i64 x.n, .string x.s] 31) :: boxR x6 (.cells #[.int .i64 4, .int .i64 (L + 19), .string ⟨#[]⟩] 31) :: valsR (.slice oa l.length oc) l :: heapR h H :: boxR b (.cells #[.int .i64 a, .slice ba svs.length bc, .slice ia I.length ic] 46) :: [] := ⟨_, rfl⟩
    have HbaseA := Lib.hid hbaseA
    have KbaseA : Hid (∀ W (Q : List Res), Sep w (Q ++ baseA) W → W.cell? ⟨x8, 0, none⟩ = some (.int .i64 x.kind) ∧ W.cell? ⟨x8, 1, none⟩ = some (.int .i64 x.n) ∧ W.cell? ⟨x8, 2, none⟩ = some (.string x.s)) := Lib.hid fun W Q T => by
      rw [hbaseA] at T
      have i0 := T.box (b := x8) (o := .cells #[.int .i64 x.kind, .int .i64 x.n, .string x.s] 31) (Q.length + 0) (by rw [List.getElem?_append_right (by omega), Nat.add_sub_cancel_left]; rfl)
      exact ⟨cellAt i0 0 rfl, cellAt i0 1 rfl, cellAt i0 2 rfl⟩
    obtain ⟨baseB, hbaseB⟩ : ∃ base, base = boxR x8 (.cells #[.int .i64 x.kind, .int .i64 x.n, .string x.s] 31) :: boxR x6 (.cells #[.int .i64 4, .int .i64 (L + 19), .string ⟨#[]⟩] 31) :: valsR (.slice oa l.length oc) l :: heapR h D :: boxR b (.cells #[.int .i64 a, .slice ba svs.length bc, .slice ia I.length ic] 46) :: [] := ⟨_, rfl⟩
    have HbaseB := Lib.hid hbaseB
    have KbaseB : Hid (∀ W (Q : List Res), Sep w (Q ++ baseB) W → W.cell? ⟨x8, 0, none⟩ = some (.int .i64 x.kind) ∧ W.cell? ⟨x8, 1, none⟩ = some (.int .i64 x.n) ∧ W.cell? ⟨x8, 2, none⟩ = some (.string x.s)) := Lib.hid fun W Q T => by
      rw [hbaseB] at T
      have i0 := T.box (b := x8) (o := .cells #[.int .i64 x.kind, .int .i64 x.n, .string x.s] 31) (Q.length + 0) (by rw [List.getElem?_append_right (by omega), Nat.add_sub_cancel_left]; rfl)
      exact ⟨cellAt i0 0 rfl, cellAt i0 1 rfl, cellAt i0 2 rfl⟩
    obtain ⟨baseC, hbaseC⟩ : ∃ base, base = boxR x8 (.cells #[.int .i64 x.kind, .int .i64 x.n, .string x.s] 31) :: boxR x6 (.cells #[.int .i64 4, .int .i64 (L + 19), .string ⟨#[]⟩] 31) :: valsR (.slice oa l.length oc) l :: heapR h D2 :: boxR b (.cells #[.int .i64 a, .slice ba svs.length bc, .slice ia I.length ic] 46) :: [] := ⟨_, rfl⟩
    have HbaseC := Lib.hid hbaseC
    have KbaseC : Hid (∀ W (Q : List Res), Sep w (Q ++ baseC) W → W.cell? ⟨x8, 0, none⟩ = some (.int .i64 x.kind) ∧ W.cell? ⟨x8, 1, none⟩ = some (.int .i64 x.n) ∧ W.cell? ⟨x8, 2, none⟩ = some (.string x.s)) := Lib.hid fun W Q T => by
      rw [hbaseC] at T
      have i0 := T.box (b := x8) (o := .cells #[.int .i64 x.kind, .int .i64 x.n, .string x.s] 31) (Q.length + 0) (by rw [List.getElem?_append_right (by omega), Nat.add_sub_cancel_left]; rfl)
      exact ⟨cellAt i0 0 rfl, cellAt i0 1 rfl, cellAt i0 2 rfl⟩
    have KM : Hid (∀ W (Q : List Res), Sep w (Q ++ baseA) W → Calls Tryd.prog 24 #[.pointer (some ⟨h, 0, none⟩), .int .i64 3, .string ⟨#[]⟩, .int .i64 0, .slice none 0 0] W fun e W' => e = .returned (.agg #[.int .i64 4, .int .i64 sn, .string ⟨#[]⟩]) ∧ Sep w (Q ++ baseB) W') := Lib.hid fun W Q T => by
      rw [HbaseA.out] at T
      rw [HbaseB.out]
      have hh := kw_make T (Q.length + 3) (by rw [List.getElem?_append_right (by omega), Nat.add_sub_cancel_left]; rfl) HC.out.fit (by omega) sn HD.out.1
      rw [HD.out.2.1, List.set_append_right _ _ (by omega), Nat.add_sub_cancel_left] at hh
      exact hh
    have KC : Hid (∀ W (Q : List Res) (q j : Nat) (hj : Q[j]? = some (valB q x)), Sep w (Q ++ baseB) W → Calls Tryd.prog 25 #[.pointer (some ⟨h, 0, none⟩), .string ⟨#[79, 119, 110]⟩, .slice (some ⟨q, 0, none⟩) 1 1, .agg #[.int .i64 4, .int .i64 sn, .string ⟨#[]⟩]] W fun e W' => e = .returned (.tuple #[.agg #[.int .i64 cv.kind, .int .i64 cv.n, .string cv.s], .agg #[.string en, .int .i64 0, .int .i64 0, .string ⟨#[]⟩, .bool false]]) ∧ Sep w (Q ++ baseC) W') := Lib.hid fun W Q q j hj T => by
      rw [HbaseB.out] at T
      rw [HbaseC.out]
      have hh := kw_class HOK.out.got T (Q.length + 3) (by rw [List.getElem?_append_right (by omega), Nat.add_sub_cancel_left]; rfl) HD.out.2.2.1 q j (by rw [List.getElem?_append_left (List.getElem?_eq_some_iff.1 hj).1]; exact hj)
      rw [List.set_append_right _ _ (by omega), Nat.add_sub_cancel_left] at hh
      exact hh
    replace S : Sep w (baseA) (w4.alloc (.cells #[.int .i64 x.kind, .int .i64 x.n, .string x.s] 31)) := by rw [hbaseA]; exact S
    replace S := Lib.hid S
    clear hbaseA hbaseB hbaseC
    go_upto_region 7 with fail
    try simp only [hx8]
    obtain ⟨Wd7, hW⟩ : ∃ gx_, ((w4.alloc (.cells #[.int .i64 x.kind, .int .i64 x.n, .string x.s] 31))) = gx_ := ⟨_, rfl⟩
    rw [hW] at S ⊢
    clear hW hx8
    go_cut [9, 10] (fun s9 s10 wx => ∃ (Q : List Res) (i j x9 x10 : Nat), s9 = .pointer (some ⟨x9, 0, none⟩) ∧ s10 = .pointer (some ⟨x10, 0, none⟩) ∧ i ≠ j ∧ Q[i]? = some (boxR x10 (.cells #[.string en, .int .i64 0, .int .i64 0, .string ⟨#[]⟩, .bool false] 35)) ∧ Q[j]? = some (boxR x9 (.cells #[.int .i64 cv.kind, .int .i64 cv.n, .string cv.s] 31)) ∧ Sep w (Q ++ baseC) wx)
    case first =>
      have T0 : Sep w ([] ++ baseA) _ := S.out.drew; clear S
      refine wp_region_held_drew (S := fun W => W.cell? ⟨x8, 0, none⟩ = some (.int .i64 x.kind) ∧ W.cell? ⟨x8, 1, none⟩ = some (.int .i64 x.n) ∧ W.cell? ⟨x8, 2, none⟩ = some (.string x.s)) (by kernel_rfl) (KbaseA.out _ [] T0) (fun hH => ?_); refine takeT 0 hH (hy := .inl ⟨by rfl, by (intro w hSw; try obtain ⟨u0, u1, u2⟩ := hSw); (go_simp; try rfl)⟩) (h := ?_); simp only [Act.put, List.setIfInBounds_toArray, List.set_cons_zero, List.set_cons_succ]; refine takeT 1 hH (hy := .inl ⟨by rfl, by (intro w hSw; try obtain ⟨u0, u1, u2⟩ := hSw); (go_simp; try rfl)⟩) (h := ?_); simp only [Act.put, List.setIfInBounds_toArray, List.set_cons_zero, List.set_cons_succ]; refine takeT 3 hH (hy := .inl ⟨by rfl, by (intro w hSw; try obtain ⟨u0, u1, u2⟩ := hSw); (go_simp; try rfl)⟩) (h := ?_); simp only [Act.put, List.setIfInBounds_toArray, List.set_cons_zero, List.set_cons_succ]; refine readyT [2, 4, 9, 10] ?_; refine consT (fun K hK => ?_) (consT (fun K hK => ?_) (consT (fun K hK => ?_) (consT (fun K hK => ?_) AllReadyH.nil)))
      ·
       go_simp
       have T1 : Sep w ([valB _ x] ++ baseA) _ := Sep.alloc T0 (.cells #[.int .i64 x.kind, .int .i64 x.n, .string x.s] 31); (try simp only [size_drew, World.size_alloc] at T1); clear hH; refine hK.out _ _ (KbaseA.out _ [_] T1) (fun hH => ?_); clear hK K; refine readyT [4, 9, 10] ?_; refine consT (fun K hK => ?_) (consT (fun K hK => ?_) (consT (fun K hK => ?_) AllReadyH.nil))
       ·
        go_simp
        go_wp2_with (go_at_call 24; refine (KM.out _ [_] T1).mono ?_; rintro e w2 ⟨rfl, T2⟩); clear hH; refine hK.out _ _ (KbaseB.out _ [_] T2) (fun hH => ?_); clear hK K; refine readyT [5, 9, 10] ?_; refine consT (fun K hK => ?_) (consT (fun K hK => ?_) (consT (fun K hK => ?_) AllReadyH.nil))
        ·
         go_simp
         go_wp2_with (go_at_call 25; refine (KC.out _ [_] _ 0 rfl T2).mono ?_; rintro e w3 ⟨rfl, T3⟩); clear hH; refine hK.out _ _ (KbaseC.out _ [_] T3) (fun hH => ?_); clear hK K; refine takeT 6 hH (hy := .inl ⟨by rfl, by (intro w hSw; try obtain ⟨u0, u1, u2⟩ := hSw); (go_simp; try rfl)⟩) (h := ?_); simp only [Act.put, List.setIfInBounds_toArray, List.set_cons_zero, List.set_cons_succ]; refine takeT 7 hH (hy := .inl ⟨by rfl, by (intro w hSw; try obtain ⟨u0, u1, u2⟩ := hSw); (go_simp; try rfl)⟩) (h := ?_); simp only [Act.put, List.setIfInBounds_toArray, List.set_cons_zero, List.set_cons_succ]; refine takeT 8 hH (hy := .inl ⟨by rfl, by (intro w hSw; try obtain ⟨u0, u1, u2⟩ := hSw); (go_simp; try rfl)⟩) (h := ?_); simp only [Act.put, List.setIfInBounds_toArray, List.set_cons_zero, List.set_cons_succ]; refine readyT [9, 10] ?_; refine consT (fun K hK => ?_) (consT (fun K hK => ?_) AllReadyH.nil)
         ·
          go_simp
          have T4 : Sep w ([zeroB _, valB _ x] ++ baseC) _ := Sep.alloc T3 (.cells #[.int .i64 0, .int .i64 0, .string ⟨#[]⟩] 31); (try simp only [size_drew, World.size_alloc] at T4); clear hH; refine hK.out _ _ (KbaseC.out _ [_, _] T4) (fun hH => ?_); clear hK K; refine readyT [10] ?_; refine consT (fun K hK => ?_) AllReadyH.nil; go_simp
          have T5 : Sep w ([excB _ ⟨#[]⟩, zeroB _, valB _ x] ++ baseC) _ := Sep.alloc T4 (.cells #[.string ⟨#[]⟩, .int .i64 0, .int .i64 0, .string ⟨#[]⟩, .bool false] 35); (try simp only [size_drew, World.size_alloc] at T5); clear hH; refine hK.out _ _ (KbaseC.out _ [_, _, _] T5) (fun hH => ?_); clear hK K; refine readyT [11] ?_; refine consT (fun K hK => ?_) AllReadyH.nil
          have hz := T5.box 1 rfl; have z0 := cellAt hz 0 (v := .int .i64 0) rfl; have z1 := cellAt hz 1 (v := .int .i64 0) rfl; have z2 := cellAt hz 2 (v := .string ⟨#[]⟩) rfl; have z3 := frozenAt hz 0; have z4 := frozenAt hz 1; have z5 := frozenAt hz 2
          (try simp only [World.cell?_drew, World.frozen?_drew] at z0 z1 z2 z3 z4 z5); go_simp; clear hz z0 z1 z2 z3 z4 z5; clear hH
          have T6 : Sep w ([excB _ ⟨#[]⟩, valB _ cv, valB _ x] ++ baseC) _ := (Sep.alloc (Sep.alloc T3 (.cells #[.int .i64 cv.kind, .int .i64 cv.n, .string cv.s] 31)) (.cells #[.string ⟨#[]⟩, .int .i64 0, .int .i64 0, .string ⟨#[]⟩, .bool false] 35)); (try simp only [size_drew, World.size_alloc] at T6)
          refine hK.out _ _ (KbaseC.out _ [_, _, _] T6) (fun hH => ?_); clear hK K; refine readyT [12] ?_; refine consT (fun K hK => ?_) AllReadyH.nil
          have hz := T6.box 0 rfl; have z0 := cellAt hz 0 (v := .string ⟨#[]⟩) rfl; have z1 := cellAt hz 1 (v := .int .i64 0) rfl; have z2 := cellAt hz 2 (v := .int .i64 0) rfl; have z3 := cellAt hz 3 (v := .string ⟨#[]⟩) rfl; have z4 := cellAt hz 4 (v := .bool false) rfl; have z5 := frozenAt hz 0; have z6 := frozenAt hz 1; have z7 := frozenAt hz 2; have z8 := frozenAt hz 3; have z9 := frozenAt hz 4
          (try simp only [World.cell?_drew, World.frozen?_drew] at z0 z1 z2 z3 z4 z5 z6 z7 z8 z9); go_simp; clear hz z0 z1 z2 z3 z4 z5 z6 z7 z8 z9; clear hH
          have T7 : Sep w ([excB _ en, valB _ cv, valB _ x] ++ baseC) _ := (Sep.alloc (Sep.alloc T3 (.cells #[.int .i64 cv.kind, .int .i64 cv.n, .string cv.s] 31)) (.cells #[.string en, .int .i64 0, .int .i64 0, .string ⟨#[]⟩, .bool false] 35)); (try simp only [size_drew, World.size_alloc] at T7)
          refine hK.out _ _ (KbaseC.out _ [_, _, _] T7) (fun hH => ?_); clear hK K
          refine wpAnyH_done (by kernel_rfl) ?_ _
          as_aux_lemma =>
           go_wp2_with fail
           go_meet
           exact ⟨[_, _, _], 0, 1, _, _, rfl, rfl, by decide, rfl, rfl, T7⟩
         ·
          go_simp
          have T8 : Sep w ([excB _ ⟨#[]⟩, valB _ x] ++ baseC) _ := Sep.alloc T3 (.cells #[.string ⟨#[]⟩, .int .i64 0, .int .i64 0, .string ⟨#[]⟩, .bool false] 35); (try simp only [size_drew, World.size_alloc] at T8); clear hH; refine hK.out _ _ (KbaseC.out _ [_, _] T8) (fun hH => ?_); clear hK K; refine readyT [9] ?_; refine consT (fun K hK => ?_) AllReadyH.nil; go_simp
          have T9 : Sep w ([zeroB _, excB _ ⟨#[]⟩, valB _ x] ++ baseC) _ := Sep.alloc T8 (.cells #[.int .i64 0, .int .i64 0, .string ⟨#[]⟩] 31); (try simp only [size_drew, World.size_alloc] at T9); clear hH; refine hK.out _ _ (KbaseC.out _ [_, _, _] T9) (fun hH => ?_); clear hK K; refine readyT [11] ?_; refine consT (fun K hK => ?_) AllReadyH.nil
          have hz := T9.box 0 rfl; have z0 := cellAt hz 0 (v := .int .i64 0) rfl; have z1 := cellAt hz 1 (v := .int .i64 0) rfl; have z2 := cellAt hz 2 (v := .string ⟨#[]⟩) rfl; have z3 := frozenAt hz 0; have z4 := frozenAt hz 1; have z5 := frozenAt hz 2
          (try simp only [World.cell?_drew, World.frozen?_drew] at z0 z1 z2 z3 z4 z5); go_simp; clear hz z0 z1 z2 z3 z4 z5; clear hH
          have T10 : Sep w ([valB _ cv, excB _ ⟨#[]⟩, valB _ x] ++ baseC) _ := (Sep.alloc (Sep.alloc T3 (.cells #[.string ⟨#[]⟩, .int .i64 0, .int .i64 0, .string ⟨#[]⟩, .bool false] 35)) (.cells #[.int .i64 cv.kind, .int .i64 cv.n, .string cv.s] 31)); (try simp only [size_drew, World.size_alloc] at T10)
          refine hK.out _ _ (KbaseC.out _ [_, _, _] T10) (fun hH => ?_); clear hK K; refine readyT [12] ?_; refine consT (fun K hK => ?_) AllReadyH.nil
          have hz := T10.box 1 rfl; have z0 := cellAt hz 0 (v := .string ⟨#[]⟩) rfl; have z1 := cellAt hz 1 (v := .int .i64 0) rfl; have z2 := cellAt hz 2 (v := .int .i64 0) rfl; have z3 := cellAt hz 3 (v := .string ⟨#[]⟩) rfl; have z4 := cellAt hz 4 (v := .bool false) rfl; have z5 := frozenAt hz 0; have z6 := frozenAt hz 1; have z7 := frozenAt hz 2; have z8 := frozenAt hz 3; have z9 := frozenAt hz 4
          (try simp only [World.cell?_drew, World.frozen?_drew] at z0 z1 z2 z3 z4 z5 z6 z7 z8 z9); go_simp; clear hz z0 z1 z2 z3 z4 z5 z6 z7 z8 z9; clear hH
          have T11 : Sep w ([valB _ cv, excB _ en, valB _ x] ++ baseC) _ := (Sep.alloc (Sep.alloc T3 (.cells #[.string en, .int .i64 0, .int .i64 0, .string ⟨#[]⟩, .bool false] 35)) (.cells #[.int .i64 cv.kind, .int .i64 cv.n, .string cv.s] 31)); (try simp only [size_drew, World.size_alloc] at T11)
          refine hK.out _ _ (KbaseC.out _ [_, _, _] T11) (fun hH => ?_); clear hK K
          refine wpAnyH_done (by kernel_rfl) ?_ _
          as_aux_lemma =>
           go_wp2_with fail
           go_meet
           exact ⟨[_, _, _], 1, 0, _, _, rfl, rfl, by decide, rfl, rfl, T11⟩
        ·
         go_simp
         have T12 : Sep w ([zeroB _, valB _ x] ++ baseB) _ := Sep.alloc T2 (.cells #[.int .i64 0, .int .i64 0, .string ⟨#[]⟩] 31); (try simp only [size_drew, World.size_alloc] at T12); clear hH; refine hK.out _ _ (KbaseB.out _ [_, _] T12) (fun hH => ?_); clear hK K; refine readyT [5, 10] ?_; refine consT (fun K hK => ?_) (consT (fun K hK => ?_) AllReadyH.nil)
         ·
          go_simp
          go_wp2_with (go_at_call 25; refine (KC.out _ [_, _] _ 1 rfl T12).mono ?_; rintro e w13 ⟨rfl, T13⟩); clear hH; refine hK.out _ _ (KbaseC.out _ [_, _] T13) (fun hH => ?_); clear hK K; refine takeT 6 hH (hy := .inl ⟨by rfl, by (intro w hSw; try obtain ⟨u0, u1, u2⟩ := hSw); (go_simp; try rfl)⟩) (h := ?_); simp only [Act.put, List.setIfInBounds_toArray, List.set_cons_zero, List.set_cons_succ]; refine takeT 7 hH (hy := .inl ⟨by rfl, by (intro w hSw; try obtain ⟨u0, u1, u2⟩ := hSw); (go_simp; try rfl)⟩) (h := ?_); simp only [Act.put, List.setIfInBounds_toArray, List.set_cons_zero, List.set_cons_succ]; refine takeT 8 hH (hy := .inl ⟨by rfl, by (intro w hSw; try obtain ⟨u0, u1, u2⟩ := hSw); (go_simp; try rfl)⟩) (h := ?_); simp only [Act.put, List.setIfInBounds_toArray, List.set_cons_zero, List.set_cons_succ]; refine readyT [10] ?_; refine consT (fun K hK => ?_) AllReadyH.nil; go_simp
          have T14 : Sep w ([excB _ ⟨#[]⟩, zeroB _, valB _ x] ++ baseC) _ := Sep.alloc T13 (.cells #[.string ⟨#[]⟩, .int .i64 0, .int .i64 0, .string ⟨#[]⟩, .bool false] 35); (try simp only [size_drew, World.size_alloc] at T14); clear hH; refine hK.out _ _ (KbaseC.out _ [_, _, _] T14) (fun hH => ?_); clear hK K; refine readyT [11] ?_; refine consT (fun K hK => ?_) AllReadyH.nil
          have hz := T14.box 1 rfl; have z0 := cellAt hz 0 (v := .int .i64 0) rfl; have z1 := cellAt hz 1 (v := .int .i64 0) rfl; have z2 := cellAt hz 2 (v := .string ⟨#[]⟩) rfl; have z3 := frozenAt hz 0; have z4 := frozenAt hz 1; have z5 := frozenAt hz 2
          (try simp only [World.cell?_drew, World.frozen?_drew] at z0 z1 z2 z3 z4 z5); go_simp; clear hz z0 z1 z2 z3 z4 z5; clear hH
          have T15 : Sep w ([excB _ ⟨#[]⟩, valB _ cv, valB _ x] ++ baseC) _ := (Sep.setBox (cs := #[.int .i64 cv.kind, .int .i64 cv.n, .string ⟨#[]⟩]) (t := 31) (Sep.setBox (cs := #[.int .i64 cv.kind, .int .i64 0, .string ⟨#[]⟩]) (t := 31) (Sep.setBox (cs := #[.int .i64 0, .int .i64 0, .string ⟨#[]⟩]) (t := 31) T14 1 rfl 0 (.int .i64 cv.kind)) 1 rfl 1 (.int .i64 cv.n)) 1 rfl 2 (.string cv.s)); (try simp only [size_drew, World.size_alloc] at T15)
          refine hK.out _ _ (KbaseC.out _ [_, _, _] T15) (fun hH => ?_); clear hK K; refine readyT [12] ?_; refine consT (fun K hK => ?_) AllReadyH.nil
          have hz := T15.box 0 rfl; have z0 := cellAt hz 0 (v := .string ⟨#[]⟩) rfl; have z1 := cellAt hz 1 (v := .int .i64 0) rfl; have z2 := cellAt hz 2 (v := .int .i64 0) rfl; have z3 := cellAt hz 3 (v := .string ⟨#[]⟩) rfl; have z4 := cellAt hz 4 (v := .bool false) rfl; have z5 := frozenAt hz 0; have z6 := frozenAt hz 1; have z7 := frozenAt hz 2; have z8 := frozenAt hz 3; have z9 := frozenAt hz 4
          (try simp only [World.cell?_drew, World.frozen?_drew] at z0 z1 z2 z3 z4 z5 z6 z7 z8 z9); go_simp; clear hz z0 z1 z2 z3 z4 z5 z6 z7 z8 z9; clear hH
          have T16 : Sep w ([excB _ en, valB _ cv, valB _ x] ++ baseC) _ := (Sep.setBox (cs := #[.string en, .int .i64 0, .int .i64 0, .string ⟨#[]⟩, .bool false]) (t := 35) (Sep.setBox (cs := #[.string en, .int .i64 0, .int .i64 0, .string ⟨#[]⟩, .bool false]) (t := 35) (Sep.setBox (cs := #[.string en, .int .i64 0, .int .i64 0, .string ⟨#[]⟩, .bool false]) (t := 35) (Sep.setBox (cs := #[.string en, .int .i64 0, .int .i64 0, .string ⟨#[]⟩, .bool false]) (t := 35) (Sep.setBox (cs := #[.string ⟨#[]⟩, .int .i64 0, .int .i64 0, .string ⟨#[]⟩, .bool false]) (t := 35) T15 0 rfl 0 (.string en)) 0 rfl 1 (.int .i64 0)) 0 rfl 2 (.int .i64 0)) 0 rfl 3 (.string ⟨#[]⟩)) 0 rfl 4 (.bool false)); (try simp only [size_drew, World.size_alloc] at T16)
          refine hK.out _ _ (KbaseC.out _ [_, _, _] T16) (fun hH => ?_); clear hK K
          refine wpAnyH_done (by kernel_rfl) ?_ _
          as_aux_lemma =>
           go_wp2_with fail
           go_meet
           exact ⟨[_, _, _], 0, 1, _, _, rfl, rfl, by decide, rfl, rfl, T16⟩
         ·
          go_simp
          have T17 : Sep w ([excB _ ⟨#[]⟩, zeroB _, valB _ x] ++ baseB) _ := Sep.alloc T12 (.cells #[.string ⟨#[]⟩, .int .i64 0, .int .i64 0, .string ⟨#[]⟩, .bool false] 35); (try simp only [size_drew, World.size_alloc] at T17); clear hH; refine hK.out _ _ (KbaseB.out _ [_, _, _] T17) (fun hH => ?_); clear hK K; refine readyT [5] ?_; refine consT (fun K hK => ?_) AllReadyH.nil; go_simp
          go_wp2_with (go_at_call 25; refine (KC.out _ [_, _, _] _ 2 rfl T17).mono ?_; rintro e w18 ⟨rfl, T18⟩); clear hH; refine hK.out _ _ (KbaseC.out _ [_, _, _] T18) (fun hH => ?_); clear hK K; refine takeT 6 hH (hy := .inl ⟨by rfl, by (intro w hSw; try obtain ⟨u0, u1, u2⟩ := hSw); (go_simp; try rfl)⟩) (h := ?_); simp only [Act.put, List.setIfInBounds_toArray, List.set_cons_zero, List.set_cons_succ]; refine takeT 7 hH (hy := .inl ⟨by rfl, by (intro w hSw; try obtain ⟨u0, u1, u2⟩ := hSw); (go_simp; try rfl)⟩) (h := ?_); simp only [Act.put, List.setIfInBounds_toArray, List.set_cons_zero, List.set_cons_succ]; refine takeT 8 hH (hy := .inl ⟨by rfl, by (intro w hSw; try obtain ⟨u0, u1, u2⟩ := hSw); (go_simp; try rfl)⟩) (h := ?_); simp only [Act.put, List.setIfInBounds_toArray, List.set_cons_zero, List.set_cons_succ]; refine readyT [11] ?_; refine consT (fun K hK => ?_) AllReadyH.nil
          have hz := T18.box 1 rfl; have z0 := cellAt hz 0 (v := .int .i64 0) rfl; have z1 := cellAt hz 1 (v := .int .i64 0) rfl; have z2 := cellAt hz 2 (v := .string ⟨#[]⟩) rfl; have z3 := frozenAt hz 0; have z4 := frozenAt hz 1; have z5 := frozenAt hz 2
          (try simp only [World.cell?_drew, World.frozen?_drew] at z0 z1 z2 z3 z4 z5); go_simp; clear hz z0 z1 z2 z3 z4 z5; clear hH
          have T19 : Sep w ([excB _ ⟨#[]⟩, valB _ cv, valB _ x] ++ baseC) _ := (Sep.setBox (cs := #[.int .i64 cv.kind, .int .i64 cv.n, .string ⟨#[]⟩]) (t := 31) (Sep.setBox (cs := #[.int .i64 cv.kind, .int .i64 0, .string ⟨#[]⟩]) (t := 31) (Sep.setBox (cs := #[.int .i64 0, .int .i64 0, .string ⟨#[]⟩]) (t := 31) T18 1 rfl 0 (.int .i64 cv.kind)) 1 rfl 1 (.int .i64 cv.n)) 1 rfl 2 (.string cv.s)); (try simp only [size_drew, World.size_alloc] at T19)
          refine hK.out _ _ (KbaseC.out _ [_, _, _] T19) (fun hH => ?_); clear hK K; refine readyT [12] ?_; refine consT (fun K hK => ?_) AllReadyH.nil
          have hz := T19.box 0 rfl; have z0 := cellAt hz 0 (v := .string ⟨#[]⟩) rfl; have z1 := cellAt hz 1 (v := .int .i64 0) rfl; have z2 := cellAt hz 2 (v := .int .i64 0) rfl; have z3 := cellAt hz 3 (v := .string ⟨#[]⟩) rfl; have z4 := cellAt hz 4 (v := .bool false) rfl; have z5 := frozenAt hz 0; have z6 := frozenAt hz 1; have z7 := frozenAt hz 2; have z8 := frozenAt hz 3; have z9 := frozenAt hz 4
          (try simp only [World.cell?_drew, World.frozen?_drew] at z0 z1 z2 z3 z4 z5 z6 z7 z8 z9); go_simp; clear hz z0 z1 z2 z3 z4 z5 z6 z7 z8 z9; clear hH
          have T20 : Sep w ([excB _ en, valB _ cv, valB _ x] ++ baseC) _ := (Sep.setBox (cs := #[.string en, .int .i64 0, .int .i64 0, .string ⟨#[]⟩, .bool false]) (t := 35) (Sep.setBox (cs := #[.string en, .int .i64 0, .int .i64 0, .string ⟨#[]⟩, .bool false]) (t := 35) (Sep.setBox (cs := #[.string en, .int .i64 0, .int .i64 0, .string ⟨#[]⟩, .bool false]) (t := 35) (Sep.setBox (cs := #[.string en, .int .i64 0, .int .i64 0, .string ⟨#[]⟩, .bool false]) (t := 35) (Sep.setBox (cs := #[.string ⟨#[]⟩, .int .i64 0, .int .i64 0, .string ⟨#[]⟩, .bool false]) (t := 35) T19 0 rfl 0 (.string en)) 0 rfl 1 (.int .i64 0)) 0 rfl 2 (.int .i64 0)) 0 rfl 3 (.string ⟨#[]⟩)) 0 rfl 4 (.bool false)); (try simp only [size_drew, World.size_alloc] at T20)
          refine hK.out _ _ (KbaseC.out _ [_, _, _] T20) (fun hH => ?_); clear hK K
          refine wpAnyH_done (by kernel_rfl) ?_ _
          as_aux_lemma =>
           go_wp2_with fail
           go_meet
           exact ⟨[_, _, _], 0, 1, _, _, rfl, rfl, by decide, rfl, rfl, T20⟩
        ·
         go_simp
         have T21 : Sep w ([excB _ ⟨#[]⟩, valB _ x] ++ baseB) _ := Sep.alloc T2 (.cells #[.string ⟨#[]⟩, .int .i64 0, .int .i64 0, .string ⟨#[]⟩, .bool false] 35); (try simp only [size_drew, World.size_alloc] at T21); clear hH; refine hK.out _ _ (KbaseB.out _ [_, _] T21) (fun hH => ?_); clear hK K; refine readyT [5, 9] ?_; refine consT (fun K hK => ?_) (consT (fun K hK => ?_) AllReadyH.nil)
         ·
          go_simp
          go_wp2_with (go_at_call 25; refine (KC.out _ [_, _] _ 1 rfl T21).mono ?_; rintro e w22 ⟨rfl, T22⟩); clear hH; refine hK.out _ _ (KbaseC.out _ [_, _] T22) (fun hH => ?_); clear hK K; refine takeT 6 hH (hy := .inl ⟨by rfl, by (intro w hSw; try obtain ⟨u0, u1, u2⟩ := hSw); (go_simp; try rfl)⟩) (h := ?_); simp only [Act.put, List.setIfInBounds_toArray, List.set_cons_zero, List.set_cons_succ]; refine takeT 7 hH (hy := .inl ⟨by rfl, by (intro w hSw; try obtain ⟨u0, u1, u2⟩ := hSw); (go_simp; try rfl)⟩) (h := ?_); simp only [Act.put, List.setIfInBounds_toArray, List.set_cons_zero, List.set_cons_succ]; refine takeT 8 hH (hy := .inl ⟨by rfl, by (intro w hSw; try obtain ⟨u0, u1, u2⟩ := hSw); (go_simp; try rfl)⟩) (h := ?_); simp only [Act.put, List.setIfInBounds_toArray, List.set_cons_zero, List.set_cons_succ]; refine readyT [9] ?_; refine consT (fun K hK => ?_) AllReadyH.nil; go_simp
          have T23 : Sep w ([zeroB _, excB _ ⟨#[]⟩, valB _ x] ++ baseC) _ := Sep.alloc T22 (.cells #[.int .i64 0, .int .i64 0, .string ⟨#[]⟩] 31); (try simp only [size_drew, World.size_alloc] at T23); clear hH; refine hK.out _ _ (KbaseC.out _ [_, _, _] T23) (fun hH => ?_); clear hK K; refine readyT [11] ?_; refine consT (fun K hK => ?_) AllReadyH.nil
          have hz := T23.box 0 rfl; have z0 := cellAt hz 0 (v := .int .i64 0) rfl; have z1 := cellAt hz 1 (v := .int .i64 0) rfl; have z2 := cellAt hz 2 (v := .string ⟨#[]⟩) rfl; have z3 := frozenAt hz 0; have z4 := frozenAt hz 1; have z5 := frozenAt hz 2
          (try simp only [World.cell?_drew, World.frozen?_drew] at z0 z1 z2 z3 z4 z5); go_simp; clear hz z0 z1 z2 z3 z4 z5; clear hH
          have T24 : Sep w ([valB _ cv, excB _ ⟨#[]⟩, valB _ x] ++ baseC) _ := (Sep.alloc T22 (.cells #[.int .i64 cv.kind, .int .i64 cv.n, .string cv.s] 31)); (try simp only [size_drew, World.size_alloc] at T24)
          refine hK.out _ _ (KbaseC.out _ [_, _, _] T24) (fun hH => ?_); clear hK K; refine readyT [12] ?_; refine consT (fun K hK => ?_) AllReadyH.nil
          have hz := T24.box 1 rfl; have z0 := cellAt hz 0 (v := .string ⟨#[]⟩) rfl; have z1 := cellAt hz 1 (v := .int .i64 0) rfl; have z2 := cellAt hz 2 (v := .int .i64 0) rfl; have z3 := cellAt hz 3 (v := .string ⟨#[]⟩) rfl; have z4 := cellAt hz 4 (v := .bool false) rfl; have z5 := frozenAt hz 0; have z6 := frozenAt hz 1; have z7 := frozenAt hz 2; have z8 := frozenAt hz 3; have z9 := frozenAt hz 4
          (try simp only [World.cell?_drew, World.frozen?_drew] at z0 z1 z2 z3 z4 z5 z6 z7 z8 z9); go_simp; clear hz z0 z1 z2 z3 z4 z5 z6 z7 z8 z9; clear hH
          have T25 : Sep w ([valB _ cv, excB _ en, valB _ x] ++ baseC) _ := (Sep.setBox (cs := #[.string en, .int .i64 0, .int .i64 0, .string ⟨#[]⟩, .bool false]) (t := 35) (Sep.setBox (cs := #[.string en, .int .i64 0, .int .i64 0, .string ⟨#[]⟩, .bool false]) (t := 35) (Sep.setBox (cs := #[.string en, .int .i64 0, .int .i64 0, .string ⟨#[]⟩, .bool false]) (t := 35) (Sep.setBox (cs := #[.string en, .int .i64 0, .int .i64 0, .string ⟨#[]⟩, .bool false]) (t := 35) (Sep.setBox (cs := #[.string ⟨#[]⟩, .int .i64 0, .int .i64 0, .string ⟨#[]⟩, .bool false]) (t := 35) T24 1 rfl 0 (.string en)) 1 rfl 1 (.int .i64 0)) 1 rfl 2 (.int .i64 0)) 1 rfl 3 (.string ⟨#[]⟩)) 1 rfl 4 (.bool false)); (try simp only [size_drew, World.size_alloc] at T25)
          refine hK.out _ _ (KbaseC.out _ [_, _, _] T25) (fun hH => ?_); clear hK K
          refine wpAnyH_done (by kernel_rfl) ?_ _
          as_aux_lemma =>
           go_wp2_with fail
           go_meet
           exact ⟨[_, _, _], 1, 0, _, _, rfl, rfl, by decide, rfl, rfl, T25⟩
         ·
          go_simp
          have T26 : Sep w ([zeroB _, excB _ ⟨#[]⟩, valB _ x] ++ baseB) _ := Sep.alloc T21 (.cells #[.int .i64 0, .int .i64 0, .string ⟨#[]⟩] 31); (try simp only [size_drew, World.size_alloc] at T26); clear hH; refine hK.out _ _ (KbaseB.out _ [_, _, _] T26) (fun hH => ?_); clear hK K; refine readyT [5] ?_; refine consT (fun K hK => ?_) AllReadyH.nil; go_simp
          go_wp2_with (go_at_call 25; refine (KC.out _ [_, _, _] _ 2 rfl T26).mono ?_; rintro e w27 ⟨rfl, T27⟩); clear hH; refine hK.out _ _ (KbaseC.out _ [_, _, _] T27) (fun hH => ?_); clear hK K; refine takeT 6 hH (hy := .inl ⟨by rfl, by (intro w hSw; try obtain ⟨u0, u1, u2⟩ := hSw); (go_simp; try rfl)⟩) (h := ?_); simp only [Act.put, List.setIfInBounds_toArray, List.set_cons_zero, List.set_cons_succ]; refine takeT 7 hH (hy := .inl ⟨by rfl, by (intro w hSw; try obtain ⟨u0, u1, u2⟩ := hSw); (go_simp; try rfl)⟩) (h := ?_); simp only [Act.put, List.setIfInBounds_toArray, List.set_cons_zero, List.set_cons_succ]; refine takeT 8 hH (hy := .inl ⟨by rfl, by (intro w hSw; try obtain ⟨u0, u1, u2⟩ := hSw); (go_simp; try rfl)⟩) (h := ?_); simp only [Act.put, List.setIfInBounds_toArray, List.set_cons_zero, List.set_cons_succ]; refine readyT [11] ?_; refine consT (fun K hK => ?_) AllReadyH.nil
          have hz := T27.box 0 rfl; have z0 := cellAt hz 0 (v := .int .i64 0) rfl; have z1 := cellAt hz 1 (v := .int .i64 0) rfl; have z2 := cellAt hz 2 (v := .string ⟨#[]⟩) rfl; have z3 := frozenAt hz 0; have z4 := frozenAt hz 1; have z5 := frozenAt hz 2
          (try simp only [World.cell?_drew, World.frozen?_drew] at z0 z1 z2 z3 z4 z5); go_simp; clear hz z0 z1 z2 z3 z4 z5; clear hH
          have T28 : Sep w ([valB _ cv, excB _ ⟨#[]⟩, valB _ x] ++ baseC) _ := (Sep.setBox (cs := #[.int .i64 cv.kind, .int .i64 cv.n, .string ⟨#[]⟩]) (t := 31) (Sep.setBox (cs := #[.int .i64 cv.kind, .int .i64 0, .string ⟨#[]⟩]) (t := 31) (Sep.setBox (cs := #[.int .i64 0, .int .i64 0, .string ⟨#[]⟩]) (t := 31) T27 0 rfl 0 (.int .i64 cv.kind)) 0 rfl 1 (.int .i64 cv.n)) 0 rfl 2 (.string cv.s)); (try simp only [size_drew, World.size_alloc] at T28)
          refine hK.out _ _ (KbaseC.out _ [_, _, _] T28) (fun hH => ?_); clear hK K; refine readyT [12] ?_; refine consT (fun K hK => ?_) AllReadyH.nil
          have hz := T28.box 1 rfl; have z0 := cellAt hz 0 (v := .string ⟨#[]⟩) rfl; have z1 := cellAt hz 1 (v := .int .i64 0) rfl; have z2 := cellAt hz 2 (v := .int .i64 0) rfl; have z3 := cellAt hz 3 (v := .string ⟨#[]⟩) rfl; have z4 := cellAt hz 4 (v := .bool false) rfl; have z5 := frozenAt hz 0; have z6 := frozenAt hz 1; have z7 := frozenAt hz 2; have z8 := frozenAt hz 3; have z9 := frozenAt hz 4
          (try simp only [World.cell?_drew, World.frozen?_drew] at z0 z1 z2 z3 z4 z5 z6 z7 z8 z9); go_simp; clear hz z0 z1 z2 z3 z4 z5 z6 z7 z8 z9; clear hH
          have T29 : Sep w ([valB _ cv, excB _ en, valB _ x] ++ baseC) _ := (Sep.setBox (cs := #[.string en, .int .i64 0, .int .i64 0, .string ⟨#[]⟩, .bool false]) (t := 35) (Sep.setBox (cs := #[.string en, .int .i64 0, .int .i64 0, .string ⟨#[]⟩, .bool false]) (t := 35) (Sep.setBox (cs := #[.string en, .int .i64 0, .int .i64 0, .string ⟨#[]⟩, .bool false]) (t := 35) (Sep.setBox (cs := #[.string en, .int .i64 0, .int .i64 0, .string ⟨#[]⟩, .bool false]) (t := 35) (Sep.setBox (cs := #[.string ⟨#[]⟩, .int .i64 0, .int .i64 0, .string ⟨#[]⟩, .bool false]) (t := 35) T28 1 rfl 0 (.string en)) 1 rfl 1 (.int .i64 0)) 1 rfl 2 (.int .i64 0)) 1 rfl 3 (.string ⟨#[]⟩)) 1 rfl 4 (.bool false)); (try simp only [size_drew, World.size_alloc] at T29)
          refine hK.out _ _ (KbaseC.out _ [_, _, _] T29) (fun hH => ?_); clear hK K
          refine wpAnyH_done (by kernel_rfl) ?_ _
          as_aux_lemma =>
           go_wp2_with fail
           go_meet
           exact ⟨[_, _, _], 1, 0, _, _, rfl, rfl, by decide, rfl, rfl, T29⟩
       ·
        go_simp
        have T30 : Sep w ([zeroB _, valB _ x] ++ baseA) _ := Sep.alloc T1 (.cells #[.int .i64 0, .int .i64 0, .string ⟨#[]⟩] 31); (try simp only [size_drew, World.size_alloc] at T30); clear hH; refine hK.out _ _ (KbaseA.out _ [_, _] T30) (fun hH => ?_); clear hK K; refine readyT [4, 10] ?_; refine consT (fun K hK => ?_) (consT (fun K hK => ?_) AllReadyH.nil)
        ·
         go_simp
         go_wp2_with (go_at_call 24; refine (KM.out _ [_, _] T30).mono ?_; rintro e w31 ⟨rfl, T31⟩); clear hH; refine hK.out _ _ (KbaseB.out _ [_, _] T31) (fun hH => ?_); clear hK K; refine readyT [5, 10] ?_; refine consT (fun K hK => ?_) (consT (fun K hK => ?_) AllReadyH.nil)
         ·
          go_simp
          go_wp2_with (go_at_call 25; refine (KC.out _ [_, _] _ 1 rfl T31).mono ?_; rintro e w32 ⟨rfl, T32⟩); clear hH; refine hK.out _ _ (KbaseC.out _ [_, _] T32) (fun hH => ?_); clear hK K; refine takeT 6 hH (hy := .inl ⟨by rfl, by (intro w hSw; try obtain ⟨u0, u1, u2⟩ := hSw); (go_simp; try rfl)⟩) (h := ?_); simp only [Act.put, List.setIfInBounds_toArray, List.set_cons_zero, List.set_cons_succ]; refine takeT 7 hH (hy := .inl ⟨by rfl, by (intro w hSw; try obtain ⟨u0, u1, u2⟩ := hSw); (go_simp; try rfl)⟩) (h := ?_); simp only [Act.put, List.setIfInBounds_toArray, List.set_cons_zero, List.set_cons_succ]; refine takeT 8 hH (hy := .inl ⟨by rfl, by (intro w hSw; try obtain ⟨u0, u1, u2⟩ := hSw); (go_simp; try rfl)⟩) (h := ?_); simp only [Act.put, List.setIfInBounds_toArray, List.set_cons_zero, List.set_cons_succ]; refine readyT [10] ?_; refine consT (fun K hK => ?_) AllReadyH.nil; go_simp
          have T33 : Sep w ([excB _ ⟨#[]⟩, zeroB _, valB _ x] ++ baseC) _ := Sep.alloc T32 (.cells #[.string ⟨#[]⟩, .int .i64 0, .int .i64 0, .string ⟨#[]⟩, .bool false] 35); (try simp only [size_drew, World.size_alloc] at T33); clear hH; refine hK.out _ _ (KbaseC.out _ [_, _, _] T33) (fun hH => ?_); clear hK K; refine readyT [11] ?_; refine consT (fun K hK => ?_) AllReadyH.nil
          have hz := T33.box 1 rfl; have z0 := cellAt hz 0 (v := .int .i64 0) rfl; have z1 := cellAt hz 1 (v := .int .i64 0) rfl; have z2 := cellAt hz 2 (v := .string ⟨#[]⟩) rfl; have z3 := frozenAt hz 0; have z4 := frozenAt hz 1; have z5 := frozenAt hz 2
          (try simp only [World.cell?_drew, World.frozen?_drew] at z0 z1 z2 z3 z4 z5); go_simp; clear hz z0 z1 z2 z3 z4 z5; clear hH
          have T34 : Sep w ([excB _ ⟨#[]⟩, valB _ cv, valB _ x] ++ baseC) _ := (Sep.setBox (cs := #[.int .i64 cv.kind, .int .i64 cv.n, .string ⟨#[]⟩]) (t := 31) (Sep.setBox (cs := #[.int .i64 cv.kind, .int .i64 0, .string ⟨#[]⟩]) (t := 31) (Sep.setBox (cs := #[.int .i64 0, .int .i64 0, .string ⟨#[]⟩]) (t := 31) T33 1 rfl 0 (.int .i64 cv.kind)) 1 rfl 1 (.int .i64 cv.n)) 1 rfl 2 (.string cv.s)); (try simp only [size_drew, World.size_alloc] at T34)
          refine hK.out _ _ (KbaseC.out _ [_, _, _] T34) (fun hH => ?_); clear hK K; refine readyT [12] ?_; refine consT (fun K hK => ?_) AllReadyH.nil
          have hz := T34.box 0 rfl; have z0 := cellAt hz 0 (v := .string ⟨#[]⟩) rfl; have z1 := cellAt hz 1 (v := .int .i64 0) rfl; have z2 := cellAt hz 2 (v := .int .i64 0) rfl; have z3 := cellAt hz 3 (v := .string ⟨#[]⟩) rfl; have z4 := cellAt hz 4 (v := .bool false) rfl; have z5 := frozenAt hz 0; have z6 := frozenAt hz 1; have z7 := frozenAt hz 2; have z8 := frozenAt hz 3; have z9 := frozenAt hz 4
          (try simp only [World.cell?_drew, World.frozen?_drew] at z0 z1 z2 z3 z4 z5 z6 z7 z8 z9); go_simp; clear hz z0 z1 z2 z3 z4 z5 z6 z7 z8 z9; clear hH
          have T35 : Sep w ([excB _ en, valB _ cv, valB _ x] ++ baseC) _ := (Sep.setBox (cs := #[.string en, .int .i64 0, .int .i64 0, .string ⟨#[]⟩, .bool false]) (t := 35) (Sep.setBox (cs := #[.string en, .int .i64 0, .int .i64 0, .string ⟨#[]⟩, .bool false]) (t := 35) (Sep.setBox (cs := #[.string en, .int .i64 0, .int .i64 0, .string ⟨#[]⟩, .bool false]) (t := 35) (Sep.setBox (cs := #[.string en, .int .i64 0, .int .i64 0, .string ⟨#[]⟩, .bool false]) (t := 35) (Sep.setBox (cs := #[.string ⟨#[]⟩, .int .i64 0, .int .i64 0, .string ⟨#[]⟩, .bool false]) (t := 35) T34 0 rfl 0 (.string en)) 0 rfl 1 (.int .i64 0)) 0 rfl 2 (.int .i64 0)) 0 rfl 3 (.string ⟨#[]⟩)) 0 rfl 4 (.bool false)); (try simp only [size_drew, World.size_alloc] at T35)
          refine hK.out _ _ (KbaseC.out _ [_, _, _] T35) (fun hH => ?_); clear hK K
          refine wpAnyH_done (by kernel_rfl) ?_ _
          as_aux_lemma =>
           go_wp2_with fail
           go_meet
           exact ⟨[_, _, _], 0, 1, _, _, rfl, rfl, by decide, rfl, rfl, T35⟩
         ·
          go_simp
          have T36 : Sep w ([excB _ ⟨#[]⟩, zeroB _, valB _ x] ++ baseB) _ := Sep.alloc T31 (.cells #[.string ⟨#[]⟩, .int .i64 0, .int .i64 0, .string ⟨#[]⟩, .bool false] 35); (try simp only [size_drew, World.size_alloc] at T36); clear hH; refine hK.out _ _ (KbaseB.out _ [_, _, _] T36) (fun hH => ?_); clear hK K; refine readyT [5] ?_; refine consT (fun K hK => ?_) AllReadyH.nil; go_simp
          go_wp2_with (go_at_call 25; refine (KC.out _ [_, _, _] _ 2 rfl T36).mono ?_; rintro e w37 ⟨rfl, T37⟩); clear hH; refine hK.out _ _ (KbaseC.out _ [_, _, _] T37) (fun hH => ?_); clear hK K; refine takeT 6 hH (hy := .inl ⟨by rfl, by (intro w hSw; try obtain ⟨u0, u1, u2⟩ := hSw); (go_simp; try rfl)⟩) (h := ?_); simp only [Act.put, List.setIfInBounds_toArray, List.set_cons_zero, List.set_cons_succ]; refine takeT 7 hH (hy := .inl ⟨by rfl, by (intro w hSw; try obtain ⟨u0, u1, u2⟩ := hSw); (go_simp; try rfl)⟩) (h := ?_); simp only [Act.put, List.setIfInBounds_toArray, List.set_cons_zero, List.set_cons_succ]; refine takeT 8 hH (hy := .inl ⟨by rfl, by (intro w hSw; try obtain ⟨u0, u1, u2⟩ := hSw); (go_simp; try rfl)⟩) (h := ?_); simp only [Act.put, List.setIfInBounds_toArray, List.set_cons_zero, List.set_cons_succ]; refine readyT [11] ?_; refine consT (fun K hK => ?_) AllReadyH.nil
          have hz := T37.box 1 rfl; have z0 := cellAt hz 0 (v := .int .i64 0) rfl; have z1 := cellAt hz 1 (v := .int .i64 0) rfl; have z2 := cellAt hz 2 (v := .string ⟨#[]⟩) rfl; have z3 := frozenAt hz 0; have z4 := frozenAt hz 1; have z5 := frozenAt hz 2
          (try simp only [World.cell?_drew, World.frozen?_drew] at z0 z1 z2 z3 z4 z5); go_simp; clear hz z0 z1 z2 z3 z4 z5; clear hH
          have T38 : Sep w ([excB _ ⟨#[]⟩, valB _ cv, valB _ x] ++ baseC) _ := (Sep.setBox (cs := #[.int .i64 cv.kind, .int .i64 cv.n, .string ⟨#[]⟩]) (t := 31) (Sep.setBox (cs := #[.int .i64 cv.kind, .int .i64 0, .string ⟨#[]⟩]) (t := 31) (Sep.setBox (cs := #[.int .i64 0, .int .i64 0, .string ⟨#[]⟩]) (t := 31) T37 1 rfl 0 (.int .i64 cv.kind)) 1 rfl 1 (.int .i64 cv.n)) 1 rfl 2 (.string cv.s)); (try simp only [size_drew, World.size_alloc] at T38)
          refine hK.out _ _ (KbaseC.out _ [_, _, _] T38) (fun hH => ?_); clear hK K; refine readyT [12] ?_; refine consT (fun K hK => ?_) AllReadyH.nil
          have hz := T38.box 0 rfl; have z0 := cellAt hz 0 (v := .string ⟨#[]⟩) rfl; have z1 := cellAt hz 1 (v := .int .i64 0) rfl; have z2 := cellAt hz 2 (v := .int .i64 0) rfl; have z3 := cellAt hz 3 (v := .string ⟨#[]⟩) rfl; have z4 := cellAt hz 4 (v := .bool false) rfl; have z5 := frozenAt hz 0; have z6 := frozenAt hz 1; have z7 := frozenAt hz 2; have z8 := frozenAt hz 3; have z9 := frozenAt hz 4
          (try simp only [World.cell?_drew, World.frozen?_drew] at z0 z1 z2 z3 z4 z5 z6 z7 z8 z9); go_simp; clear hz z0 z1 z2 z3 z4 z5 z6 z7 z8 z9; clear hH
          have T39 : Sep w ([excB _ en, valB _ cv, valB _ x] ++ baseC) _ := (Sep.setBox (cs := #[.string en, .int .i64 0, .int .i64 0, .string ⟨#[]⟩, .bool false]) (t := 35) (Sep.setBox (cs := #[.string en, .int .i64 0, .int .i64 0, .string ⟨#[]⟩, .bool false]) (t := 35) (Sep.setBox (cs := #[.string en, .int .i64 0, .int .i64 0, .string ⟨#[]⟩, .bool false]) (t := 35) (Sep.setBox (cs := #[.string en, .int .i64 0, .int .i64 0, .string ⟨#[]⟩, .bool false]) (t := 35) (Sep.setBox (cs := #[.string ⟨#[]⟩, .int .i64 0, .int .i64 0, .string ⟨#[]⟩, .bool false]) (t := 35) T38 0 rfl 0 (.string en)) 0 rfl 1 (.int .i64 0)) 0 rfl 2 (.int .i64 0)) 0 rfl 3 (.string ⟨#[]⟩)) 0 rfl 4 (.bool false)); (try simp only [size_drew, World.size_alloc] at T39)
          refine hK.out _ _ (KbaseC.out _ [_, _, _] T39) (fun hH => ?_); clear hK K
          refine wpAnyH_done (by kernel_rfl) ?_ _
          as_aux_lemma =>
           go_wp2_with fail
           go_meet
           exact ⟨[_, _, _], 0, 1, _, _, rfl, rfl, by decide, rfl, rfl, T39⟩
        ·
         go_simp
         have T40 : Sep w ([excB _ ⟨#[]⟩, zeroB _, valB _ x] ++ baseA) _ := Sep.alloc T30 (.cells #[.string ⟨#[]⟩, .int .i64 0, .int .i64 0, .string ⟨#[]⟩, .bool false] 35); (try simp only [size_drew, World.size_alloc] at T40); clear hH; refine hK.out _ _ (KbaseA.out _ [_, _, _] T40) (fun hH => ?_); clear hK K; refine readyT [4] ?_; refine consT (fun K hK => ?_) AllReadyH.nil; go_simp
         go_wp2_with (go_at_call 24; refine (KM.out _ [_, _, _] T40).mono ?_; rintro e w41 ⟨rfl, T41⟩); clear hH; refine hK.out _ _ (KbaseB.out _ [_, _, _] T41) (fun hH => ?_); clear hK K; refine readyT [5] ?_; refine consT (fun K hK => ?_) AllReadyH.nil; go_simp
         go_wp2_with (go_at_call 25; refine (KC.out _ [_, _, _] _ 2 rfl T41).mono ?_; rintro e w42 ⟨rfl, T42⟩); clear hH; refine hK.out _ _ (KbaseC.out _ [_, _, _] T42) (fun hH => ?_); clear hK K; refine takeT 6 hH (hy := .inl ⟨by rfl, by (intro w hSw; try obtain ⟨u0, u1, u2⟩ := hSw); (go_simp; try rfl)⟩) (h := ?_); simp only [Act.put, List.setIfInBounds_toArray, List.set_cons_zero, List.set_cons_succ]; refine takeT 7 hH (hy := .inl ⟨by rfl, by (intro w hSw; try obtain ⟨u0, u1, u2⟩ := hSw); (go_simp; try rfl)⟩) (h := ?_); simp only [Act.put, List.setIfInBounds_toArray, List.set_cons_zero, List.set_cons_succ]; refine takeT 8 hH (hy := .inl ⟨by rfl, by (intro w hSw; try obtain ⟨u0, u1, u2⟩ := hSw); (go_simp; try rfl)⟩) (h := ?_); simp only [Act.put, List.setIfInBounds_toArray, List.set_cons_zero, List.set_cons_succ]; refine readyT [11] ?_; refine consT (fun K hK => ?_) AllReadyH.nil
         have hz := T42.box 1 rfl; have z0 := cellAt hz 0 (v := .int .i64 0) rfl; have z1 := cellAt hz 1 (v := .int .i64 0) rfl; have z2 := cellAt hz 2 (v := .string ⟨#[]⟩) rfl; have z3 := frozenAt hz 0; have z4 := frozenAt hz 1; have z5 := frozenAt hz 2
         (try simp only [World.cell?_drew, World.frozen?_drew] at z0 z1 z2 z3 z4 z5); go_simp; clear hz z0 z1 z2 z3 z4 z5; clear hH
         have T43 : Sep w ([excB _ ⟨#[]⟩, valB _ cv, valB _ x] ++ baseC) _ := (Sep.setBox (cs := #[.int .i64 cv.kind, .int .i64 cv.n, .string ⟨#[]⟩]) (t := 31) (Sep.setBox (cs := #[.int .i64 cv.kind, .int .i64 0, .string ⟨#[]⟩]) (t := 31) (Sep.setBox (cs := #[.int .i64 0, .int .i64 0, .string ⟨#[]⟩]) (t := 31) T42 1 rfl 0 (.int .i64 cv.kind)) 1 rfl 1 (.int .i64 cv.n)) 1 rfl 2 (.string cv.s)); (try simp only [size_drew, World.size_alloc] at T43)
         refine hK.out _ _ (KbaseC.out _ [_, _, _] T43) (fun hH => ?_); clear hK K; refine readyT [12] ?_; refine consT (fun K hK => ?_) AllReadyH.nil
         have hz := T43.box 0 rfl; have z0 := cellAt hz 0 (v := .string ⟨#[]⟩) rfl; have z1 := cellAt hz 1 (v := .int .i64 0) rfl; have z2 := cellAt hz 2 (v := .int .i64 0) rfl; have z3 := cellAt hz 3 (v := .string ⟨#[]⟩) rfl; have z4 := cellAt hz 4 (v := .bool false) rfl; have z5 := frozenAt hz 0; have z6 := frozenAt hz 1; have z7 := frozenAt hz 2; have z8 := frozenAt hz 3; have z9 := frozenAt hz 4
         (try simp only [World.cell?_drew, World.frozen?_drew] at z0 z1 z2 z3 z4 z5 z6 z7 z8 z9); go_simp; clear hz z0 z1 z2 z3 z4 z5 z6 z7 z8 z9; clear hH
         have T44 : Sep w ([excB _ en, valB _ cv, valB _ x] ++ baseC) _ := (Sep.setBox (cs := #[.string en, .int .i64 0, .int .i64 0, .string ⟨#[]⟩, .bool false]) (t := 35) (Sep.setBox (cs := #[.string en, .int .i64 0, .int .i64 0, .string ⟨#[]⟩, .bool false]) (t := 35) (Sep.setBox (cs := #[.string en, .int .i64 0, .int .i64 0, .string ⟨#[]⟩, .bool false]) (t := 35) (Sep.setBox (cs := #[.string en, .int .i64 0, .int .i64 0, .string ⟨#[]⟩, .bool false]) (t := 35) (Sep.setBox (cs := #[.string ⟨#[]⟩, .int .i64 0, .int .i64 0, .string ⟨#[]⟩, .bool false]) (t := 35) T43 0 rfl 0 (.string en)) 0 rfl 1 (.int .i64 0)) 0 rfl 2 (.int .i64 0)) 0 rfl 3 (.string ⟨#[]⟩)) 0 rfl 4 (.bool false)); (try simp only [size_drew, World.size_alloc] at T44)
         refine hK.out _ _ (KbaseC.out _ [_, _, _] T44) (fun hH => ?_); clear hK K
         refine wpAnyH_done (by kernel_rfl) ?_ _
         as_aux_lemma =>
          go_wp2_with fail
          go_meet
          exact ⟨[_, _, _], 0, 1, _, _, rfl, rfl, by decide, rfl, rfl, T44⟩
       ·
        go_simp
        have T45 : Sep w ([excB _ ⟨#[]⟩, valB _ x] ++ baseA) _ := Sep.alloc T1 (.cells #[.string ⟨#[]⟩, .int .i64 0, .int .i64 0, .string ⟨#[]⟩, .bool false] 35); (try simp only [size_drew, World.size_alloc] at T45); clear hH; refine hK.out _ _ (KbaseA.out _ [_, _] T45) (fun hH => ?_); clear hK K; refine readyT [4, 9] ?_; refine consT (fun K hK => ?_) (consT (fun K hK => ?_) AllReadyH.nil)
        ·
         go_simp
         go_wp2_with (go_at_call 24; refine (KM.out _ [_, _] T45).mono ?_; rintro e w46 ⟨rfl, T46⟩); clear hH; refine hK.out _ _ (KbaseB.out _ [_, _] T46) (fun hH => ?_); clear hK K; refine readyT [5, 9] ?_; refine consT (fun K hK => ?_) (consT (fun K hK => ?_) AllReadyH.nil)
         ·
          go_simp
          go_wp2_with (go_at_call 25; refine (KC.out _ [_, _] _ 1 rfl T46).mono ?_; rintro e w47 ⟨rfl, T47⟩); clear hH; refine hK.out _ _ (KbaseC.out _ [_, _] T47) (fun hH => ?_); clear hK K; refine takeT 6 hH (hy := .inl ⟨by rfl, by (intro w hSw; try obtain ⟨u0, u1, u2⟩ := hSw); (go_simp; try rfl)⟩) (h := ?_); simp only [Act.put, List.setIfInBounds_toArray, List.set_cons_zero, List.set_cons_succ]; refine takeT 7 hH (hy := .inl ⟨by rfl, by (intro w hSw; try obtain ⟨u0, u1, u2⟩ := hSw); (go_simp; try rfl)⟩) (h := ?_); simp only [Act.put, List.setIfInBounds_toArray, List.set_cons_zero, List.set_cons_succ]; refine takeT 8 hH (hy := .inl ⟨by rfl, by (intro w hSw; try obtain ⟨u0, u1, u2⟩ := hSw); (go_simp; try rfl)⟩) (h := ?_); simp only [Act.put, List.setIfInBounds_toArray, List.set_cons_zero, List.set_cons_succ]; refine readyT [9] ?_; refine consT (fun K hK => ?_) AllReadyH.nil; go_simp
          have T48 : Sep w ([zeroB _, excB _ ⟨#[]⟩, valB _ x] ++ baseC) _ := Sep.alloc T47 (.cells #[.int .i64 0, .int .i64 0, .string ⟨#[]⟩] 31); (try simp only [size_drew, World.size_alloc] at T48); clear hH; refine hK.out _ _ (KbaseC.out _ [_, _, _] T48) (fun hH => ?_); clear hK K; refine readyT [11] ?_; refine consT (fun K hK => ?_) AllReadyH.nil
          have hz := T48.box 0 rfl; have z0 := cellAt hz 0 (v := .int .i64 0) rfl; have z1 := cellAt hz 1 (v := .int .i64 0) rfl; have z2 := cellAt hz 2 (v := .string ⟨#[]⟩) rfl; have z3 := frozenAt hz 0; have z4 := frozenAt hz 1; have z5 := frozenAt hz 2
          (try simp only [World.cell?_drew, World.frozen?_drew] at z0 z1 z2 z3 z4 z5); go_simp; clear hz z0 z1 z2 z3 z4 z5; clear hH
          have T49 : Sep w ([valB _ cv, excB _ ⟨#[]⟩, valB _ x] ++ baseC) _ := (Sep.alloc T47 (.cells #[.int .i64 cv.kind, .int .i64 cv.n, .string cv.s] 31)); (try simp only [size_drew, World.size_alloc] at T49)
          refine hK.out _ _ (KbaseC.out _ [_, _, _] T49) (fun hH => ?_); clear hK K; refine readyT [12] ?_; refine consT (fun K hK => ?_) AllReadyH.nil
          have hz := T49.box 1 rfl; have z0 := cellAt hz 0 (v := .string ⟨#[]⟩) rfl; have z1 := cellAt hz 1 (v := .int .i64 0) rfl; have z2 := cellAt hz 2 (v := .int .i64 0) rfl; have z3 := cellAt hz 3 (v := .string ⟨#[]⟩) rfl; have z4 := cellAt hz 4 (v := .bool false) rfl; have z5 := frozenAt hz 0; have z6 := frozenAt hz 1; have z7 := frozenAt hz 2; have z8 := frozenAt hz 3; have z9 := frozenAt hz 4
          (try simp only [World.cell?_drew, World.frozen?_drew] at z0 z1 z2 z3 z4 z5 z6 z7 z8 z9); go_simp; clear hz z0 z1 z2 z3 z4 z5 z6 z7 z8 z9; clear hH
          have T50 : Sep w ([valB _ cv, excB _ en, valB _ x] ++ baseC) _ := (Sep.setBox (cs := #[.string en, .int .i64 0, .int .i64 0, .string ⟨#[]⟩, .bool false]) (t := 35) (Sep.setBox (cs := #[.string en, .int .i64 0, .int .i64 0, .string ⟨#[]⟩, .bool false]) (t := 35) (Sep.setBox (cs := #[.string en, .int .i64 0, .int .i64 0, .string ⟨#[]⟩, .bool false]) (t := 35) (Sep.setBox (cs := #[.string en, .int .i64 0, .int .i64 0, .string ⟨#[]⟩, .bool false]) (t := 35) (Sep.setBox (cs := #[.string ⟨#[]⟩, .int .i64 0, .int .i64 0, .string ⟨#[]⟩, .bool false]) (t := 35) T49 1 rfl 0 (.string en)) 1 rfl 1 (.int .i64 0)) 1 rfl 2 (.int .i64 0)) 1 rfl 3 (.string ⟨#[]⟩)) 1 rfl 4 (.bool false)); (try simp only [size_drew, World.size_alloc] at T50)
          refine hK.out _ _ (KbaseC.out _ [_, _, _] T50) (fun hH => ?_); clear hK K
          refine wpAnyH_done (by kernel_rfl) ?_ _
          as_aux_lemma =>
           go_wp2_with fail
           go_meet
           exact ⟨[_, _, _], 1, 0, _, _, rfl, rfl, by decide, rfl, rfl, T50⟩
         ·
          go_simp
          have T51 : Sep w ([zeroB _, excB _ ⟨#[]⟩, valB _ x] ++ baseB) _ := Sep.alloc T46 (.cells #[.int .i64 0, .int .i64 0, .string ⟨#[]⟩] 31); (try simp only [size_drew, World.size_alloc] at T51); clear hH; refine hK.out _ _ (KbaseB.out _ [_, _, _] T51) (fun hH => ?_); clear hK K; refine readyT [5] ?_; refine consT (fun K hK => ?_) AllReadyH.nil; go_simp
          go_wp2_with (go_at_call 25; refine (KC.out _ [_, _, _] _ 2 rfl T51).mono ?_; rintro e w52 ⟨rfl, T52⟩); clear hH; refine hK.out _ _ (KbaseC.out _ [_, _, _] T52) (fun hH => ?_); clear hK K; refine takeT 6 hH (hy := .inl ⟨by rfl, by (intro w hSw; try obtain ⟨u0, u1, u2⟩ := hSw); (go_simp; try rfl)⟩) (h := ?_); simp only [Act.put, List.setIfInBounds_toArray, List.set_cons_zero, List.set_cons_succ]; refine takeT 7 hH (hy := .inl ⟨by rfl, by (intro w hSw; try obtain ⟨u0, u1, u2⟩ := hSw); (go_simp; try rfl)⟩) (h := ?_); simp only [Act.put, List.setIfInBounds_toArray, List.set_cons_zero, List.set_cons_succ]; refine takeT 8 hH (hy := .inl ⟨by rfl, by (intro w hSw; try obtain ⟨u0, u1, u2⟩ := hSw); (go_simp; try rfl)⟩) (h := ?_); simp only [Act.put, List.setIfInBounds_toArray, List.set_cons_zero, List.set_cons_succ]; refine readyT [11] ?_; refine consT (fun K hK => ?_) AllReadyH.nil
          have hz := T52.box 0 rfl; have z0 := cellAt hz 0 (v := .int .i64 0) rfl; have z1 := cellAt hz 1 (v := .int .i64 0) rfl; have z2 := cellAt hz 2 (v := .string ⟨#[]⟩) rfl; have z3 := frozenAt hz 0; have z4 := frozenAt hz 1; have z5 := frozenAt hz 2
          (try simp only [World.cell?_drew, World.frozen?_drew] at z0 z1 z2 z3 z4 z5); go_simp; clear hz z0 z1 z2 z3 z4 z5; clear hH
          have T53 : Sep w ([valB _ cv, excB _ ⟨#[]⟩, valB _ x] ++ baseC) _ := (Sep.setBox (cs := #[.int .i64 cv.kind, .int .i64 cv.n, .string ⟨#[]⟩]) (t := 31) (Sep.setBox (cs := #[.int .i64 cv.kind, .int .i64 0, .string ⟨#[]⟩]) (t := 31) (Sep.setBox (cs := #[.int .i64 0, .int .i64 0, .string ⟨#[]⟩]) (t := 31) T52 0 rfl 0 (.int .i64 cv.kind)) 0 rfl 1 (.int .i64 cv.n)) 0 rfl 2 (.string cv.s)); (try simp only [size_drew, World.size_alloc] at T53)
          refine hK.out _ _ (KbaseC.out _ [_, _, _] T53) (fun hH => ?_); clear hK K; refine readyT [12] ?_; refine consT (fun K hK => ?_) AllReadyH.nil
          have hz := T53.box 1 rfl; have z0 := cellAt hz 0 (v := .string ⟨#[]⟩) rfl; have z1 := cellAt hz 1 (v := .int .i64 0) rfl; have z2 := cellAt hz 2 (v := .int .i64 0) rfl; have z3 := cellAt hz 3 (v := .string ⟨#[]⟩) rfl; have z4 := cellAt hz 4 (v := .bool false) rfl; have z5 := frozenAt hz 0; have z6 := frozenAt hz 1; have z7 := frozenAt hz 2; have z8 := frozenAt hz 3; have z9 := frozenAt hz 4
          (try simp only [World.cell?_drew, World.frozen?_drew] at z0 z1 z2 z3 z4 z5 z6 z7 z8 z9); go_simp; clear hz z0 z1 z2 z3 z4 z5 z6 z7 z8 z9; clear hH
          have T54 : Sep w ([valB _ cv, excB _ en, valB _ x] ++ baseC) _ := (Sep.setBox (cs := #[.string en, .int .i64 0, .int .i64 0, .string ⟨#[]⟩, .bool false]) (t := 35) (Sep.setBox (cs := #[.string en, .int .i64 0, .int .i64 0, .string ⟨#[]⟩, .bool false]) (t := 35) (Sep.setBox (cs := #[.string en, .int .i64 0, .int .i64 0, .string ⟨#[]⟩, .bool false]) (t := 35) (Sep.setBox (cs := #[.string en, .int .i64 0, .int .i64 0, .string ⟨#[]⟩, .bool false]) (t := 35) (Sep.setBox (cs := #[.string ⟨#[]⟩, .int .i64 0, .int .i64 0, .string ⟨#[]⟩, .bool false]) (t := 35) T53 1 rfl 0 (.string en)) 1 rfl 1 (.int .i64 0)) 1 rfl 2 (.int .i64 0)) 1 rfl 3 (.string ⟨#[]⟩)) 1 rfl 4 (.bool false)); (try simp only [size_drew, World.size_alloc] at T54)
          refine hK.out _ _ (KbaseC.out _ [_, _, _] T54) (fun hH => ?_); clear hK K
          refine wpAnyH_done (by kernel_rfl) ?_ _
          as_aux_lemma =>
           go_wp2_with fail
           go_meet
           exact ⟨[_, _, _], 1, 0, _, _, rfl, rfl, by decide, rfl, rfl, T54⟩
        ·
         go_simp
         have T55 : Sep w ([zeroB _, excB _ ⟨#[]⟩, valB _ x] ++ baseA) _ := Sep.alloc T45 (.cells #[.int .i64 0, .int .i64 0, .string ⟨#[]⟩] 31); (try simp only [size_drew, World.size_alloc] at T55); clear hH; refine hK.out _ _ (KbaseA.out _ [_, _, _] T55) (fun hH => ?_); clear hK K; refine readyT [4] ?_; refine consT (fun K hK => ?_) AllReadyH.nil; go_simp
         go_wp2_with (go_at_call 24; refine (KM.out _ [_, _, _] T55).mono ?_; rintro e w56 ⟨rfl, T56⟩); clear hH; refine hK.out _ _ (KbaseB.out _ [_, _, _] T56) (fun hH => ?_); clear hK K; refine readyT [5] ?_; refine consT (fun K hK => ?_) AllReadyH.nil; go_simp
         go_wp2_with (go_at_call 25; refine (KC.out _ [_, _, _] _ 2 rfl T56).mono ?_; rintro e w57 ⟨rfl, T57⟩); clear hH; refine hK.out _ _ (KbaseC.out _ [_, _, _] T57) (fun hH => ?_); clear hK K; refine takeT 6 hH (hy := .inl ⟨by rfl, by (intro w hSw; try obtain ⟨u0, u1, u2⟩ := hSw); (go_simp; try rfl)⟩) (h := ?_); simp only [Act.put, List.setIfInBounds_toArray, List.set_cons_zero, List.set_cons_succ]; refine takeT 7 hH (hy := .inl ⟨by rfl, by (intro w hSw; try obtain ⟨u0, u1, u2⟩ := hSw); (go_simp; try rfl)⟩) (h := ?_); simp only [Act.put, List.setIfInBounds_toArray, List.set_cons_zero, List.set_cons_succ]; refine takeT 8 hH (hy := .inl ⟨by rfl, by (intro w hSw; try obtain ⟨u0, u1, u2⟩ := hSw); (go_simp; try rfl)⟩) (h := ?_); simp only [Act.put, List.setIfInBounds_toArray, List.set_cons_zero, List.set_cons_succ]; refine readyT [11] ?_; refine consT (fun K hK => ?_) AllReadyH.nil
         have hz := T57.box 0 rfl; have z0 := cellAt hz 0 (v := .int .i64 0) rfl; have z1 := cellAt hz 1 (v := .int .i64 0) rfl; have z2 := cellAt hz 2 (v := .string ⟨#[]⟩) rfl; have z3 := frozenAt hz 0; have z4 := frozenAt hz 1; have z5 := frozenAt hz 2
         (try simp only [World.cell?_drew, World.frozen?_drew] at z0 z1 z2 z3 z4 z5); go_simp; clear hz z0 z1 z2 z3 z4 z5; clear hH
         have T58 : Sep w ([valB _ cv, excB _ ⟨#[]⟩, valB _ x] ++ baseC) _ := (Sep.setBox (cs := #[.int .i64 cv.kind, .int .i64 cv.n, .string ⟨#[]⟩]) (t := 31) (Sep.setBox (cs := #[.int .i64 cv.kind, .int .i64 0, .string ⟨#[]⟩]) (t := 31) (Sep.setBox (cs := #[.int .i64 0, .int .i64 0, .string ⟨#[]⟩]) (t := 31) T57 0 rfl 0 (.int .i64 cv.kind)) 0 rfl 1 (.int .i64 cv.n)) 0 rfl 2 (.string cv.s)); (try simp only [size_drew, World.size_alloc] at T58)
         refine hK.out _ _ (KbaseC.out _ [_, _, _] T58) (fun hH => ?_); clear hK K; refine readyT [12] ?_; refine consT (fun K hK => ?_) AllReadyH.nil
         have hz := T58.box 1 rfl; have z0 := cellAt hz 0 (v := .string ⟨#[]⟩) rfl; have z1 := cellAt hz 1 (v := .int .i64 0) rfl; have z2 := cellAt hz 2 (v := .int .i64 0) rfl; have z3 := cellAt hz 3 (v := .string ⟨#[]⟩) rfl; have z4 := cellAt hz 4 (v := .bool false) rfl; have z5 := frozenAt hz 0; have z6 := frozenAt hz 1; have z7 := frozenAt hz 2; have z8 := frozenAt hz 3; have z9 := frozenAt hz 4
         (try simp only [World.cell?_drew, World.frozen?_drew] at z0 z1 z2 z3 z4 z5 z6 z7 z8 z9); go_simp; clear hz z0 z1 z2 z3 z4 z5 z6 z7 z8 z9; clear hH
         have T59 : Sep w ([valB _ cv, excB _ en, valB _ x] ++ baseC) _ := (Sep.setBox (cs := #[.string en, .int .i64 0, .int .i64 0, .string ⟨#[]⟩, .bool false]) (t := 35) (Sep.setBox (cs := #[.string en, .int .i64 0, .int .i64 0, .string ⟨#[]⟩, .bool false]) (t := 35) (Sep.setBox (cs := #[.string en, .int .i64 0, .int .i64 0, .string ⟨#[]⟩, .bool false]) (t := 35) (Sep.setBox (cs := #[.string en, .int .i64 0, .int .i64 0, .string ⟨#[]⟩, .bool false]) (t := 35) (Sep.setBox (cs := #[.string ⟨#[]⟩, .int .i64 0, .int .i64 0, .string ⟨#[]⟩, .bool false]) (t := 35) T58 1 rfl 0 (.string en)) 1 rfl 1 (.int .i64 0)) 1 rfl 2 (.int .i64 0)) 1 rfl 3 (.string ⟨#[]⟩)) 1 rfl 4 (.bool false)); (try simp only [size_drew, World.size_alloc] at T59)
         refine hK.out _ _ (KbaseC.out _ [_, _, _] T59) (fun hH => ?_); clear hK K
         refine wpAnyH_done (by kernel_rfl) ?_ _
         as_aux_lemma =>
          go_wp2_with fail
          go_meet
          exact ⟨[_, _, _], 1, 0, _, _, rfl, rfl, by decide, rfl, rfl, T59⟩
      ·
       go_simp
       go_wp2_with (go_at_call 24; refine (KM.out _ [] T0).mono ?_; rintro e w60 ⟨rfl, T60⟩); clear hH; refine hK.out _ _ (KbaseB.out _ [] T60) (fun hH => ?_); clear hK K; refine readyT [2, 9, 10] ?_; refine consT (fun K hK => ?_) (consT (fun K hK => ?_) (consT (fun K hK => ?_) AllReadyH.nil))
       ·
        go_simp
        have T61 : Sep w ([valB _ x] ++ baseB) _ := Sep.alloc T60 (.cells #[.int .i64 x.kind, .int .i64 x.n, .string x.s] 31); (try simp only [size_drew, World.size_alloc] at T61); clear hH; refine hK.out _ _ (KbaseB.out _ [_] T61) (fun hH => ?_); clear hK K; refine readyT [5, 9, 10] ?_; refine consT (fun K hK => ?_) (consT (fun K hK => ?_) (consT (fun K hK => ?_) AllReadyH.nil))
        ·
         go_simp
         go_wp2_with (go_at_call 25; refine (KC.out _ [_] _ 0 rfl T61).mono ?_; rintro e w62 ⟨rfl, T62⟩); clear hH; refine hK.out _ _ (KbaseC.out _ [_] T62) (fun hH => ?_); clear hK K; refine takeT 6 hH (hy := .inl ⟨by rfl, by (intro w hSw; try obtain ⟨u0, u1, u2⟩ := hSw); (go_simp; try rfl)⟩) (h := ?_); simp only [Act.put, List.setIfInBounds_toArray, List.set_cons_zero, List.set_cons_succ]; refine takeT 7 hH (hy := .inl ⟨by rfl, by (intro w hSw; try obtain ⟨u0, u1, u2⟩ := hSw); (go_simp; try rfl)⟩) (h := ?_); simp only [Act.put, List.setIfInBounds_toArray, List.set_cons_zero, List.set_cons_succ]; refine takeT 8 hH (hy := .inl ⟨by rfl, by (intro w hSw; try obtain ⟨u0, u1, u2⟩ := hSw); (go_simp; try rfl)⟩) (h := ?_); simp only [Act.put, List.setIfInBounds_toArray, List.set_cons_zero, List.set_cons_succ]; refine readyT [9, 10] ?_; refine consT (fun K hK => ?_) (consT (fun K hK => ?_) AllReadyH.nil)
         ·
          go_simp
          have T63 : Sep w ([zeroB _, valB _ x] ++ baseC) _ := Sep.alloc T62 (.cells #[.int .i64 0, .int .i64 0, .string ⟨#[]⟩] 31); (try simp only [size_drew, World.size_alloc] at T63); clear hH; refine hK.out _ _ (KbaseC.out _ [_, _] T63) (fun hH => ?_); clear hK K; refine readyT [10] ?_; refine consT (fun K hK => ?_) AllReadyH.nil; go_simp
          have T64 : Sep w ([excB _ ⟨#[]⟩, zeroB _, valB _ x] ++ baseC) _ := Sep.alloc T63 (.cells #[.string ⟨#[]⟩, .int .i64 0, .int .i64 0, .string ⟨#[]⟩, .bool false] 35); (try simp only [size_drew, World.size_alloc] at T64); clear hH; refine hK.out _ _ (KbaseC.out _ [_, _, _] T64) (fun hH => ?_); clear hK K; refine readyT [11] ?_; refine consT (fun K hK => ?_) AllReadyH.nil
          have hz := T64.box 1 rfl; have z0 := cellAt hz 0 (v := .int .i64 0) rfl; have z1 := cellAt hz 1 (v := .int .i64 0) rfl; have z2 := cellAt hz 2 (v := .string ⟨#[]⟩) rfl; have z3 := frozenAt hz 0; have z4 := frozenAt hz 1; have z5 := frozenAt hz 2
          (try simp only [World.cell?_drew, World.frozen?_drew] at z0 z1 z2 z3 z4 z5); go_simp; clear hz z0 z1 z2 z3 z4 z5; clear hH
          have T65 : Sep w ([excB _ ⟨#[]⟩, valB _ cv, valB _ x] ++ baseC) _ := (Sep.alloc (Sep.alloc T62 (.cells #[.int .i64 cv.kind, .int .i64 cv.n, .string cv.s] 31)) (.cells #[.string ⟨#[]⟩, .int .i64 0, .int .i64 0, .string ⟨#[]⟩, .bool false] 35)); (try simp only [size_drew, World.size_alloc] at T65)
          refine hK.out _ _ (KbaseC.out _ [_, _, _] T65) (fun hH => ?_); clear hK K; refine readyT [12] ?_; refine consT (fun K hK => ?_) AllReadyH.nil
          have hz := T65.box 0 rfl; have z0 := cellAt hz 0 (v := .string ⟨#[]⟩) rfl; have z1 := cellAt hz 1 (v := .int .i64 0) rfl; have z2 := cellAt hz 2 (v := .int .i64 0) rfl; have z3 := cellAt hz 3 (v := .string ⟨#[]⟩) rfl; have z4 := cellAt hz 4 (v := .bool false) rfl; have z5 := frozenAt hz 0; have z6 := frozenAt hz 1; have z7 := frozenAt hz 2; have z8 := frozenAt hz 3; have z9 := frozenAt hz 4
          (try simp only [World.cell?_drew, World.frozen?_drew] at z0 z1 z2 z3 z4 z5 z6 z7 z8 z9); go_simp; clear hz z0 z1 z2 z3 z4 z5 z6 z7 z8 z9; clear hH
          have T66 : Sep w ([excB _ en, valB _ cv, valB _ x] ++ baseC) _ := (Sep.alloc (Sep.alloc T62 (.cells #[.int .i64 cv.kind, .int .i64 cv.n, .string cv.s] 31)) (.cells #[.string en, .int .i64 0, .int .i64 0, .string ⟨#[]⟩, .bool false] 35)); (try simp only [size_drew, World.size_alloc] at T66)
          refine hK.out _ _ (KbaseC.out _ [_, _, _] T66) (fun hH => ?_); clear hK K
          refine wpAnyH_done (by kernel_rfl) ?_ _
          as_aux_lemma =>
           go_wp2_with fail
           go_meet
           exact ⟨[_, _, _], 0, 1, _, _, rfl, rfl, by decide, rfl, rfl, T66⟩
         ·
          go_simp
          have T67 : Sep w ([excB _ ⟨#[]⟩, valB _ x] ++ baseC) _ := Sep.alloc T62 (.cells #[.string ⟨#[]⟩, .int .i64 0, .int .i64 0, .string ⟨#[]⟩, .bool false] 35); (try simp only [size_drew, World.size_alloc] at T67); clear hH; refine hK.out _ _ (KbaseC.out _ [_, _] T67) (fun hH => ?_); clear hK K; refine readyT [9] ?_; refine consT (fun K hK => ?_) AllReadyH.nil; go_simp
          have T68 : Sep w ([zeroB _, excB _ ⟨#[]⟩, valB _ x] ++ baseC) _ := Sep.alloc T67 (.cells #[.int .i64 0, .int .i64 0, .string ⟨#[]⟩] 31); (try simp only [size_drew, World.size_alloc] at T68); clear hH; refine hK.out _ _ (KbaseC.out _ [_, _, _] T68) (fun hH => ?_); clear hK K; refine readyT [11] ?_; refine consT (fun K hK => ?_) AllReadyH.nil
          have hz := T68.box 0 rfl; have z0 := cellAt hz 0 (v := .int .i64 0) rfl; have z1 := cellAt hz 1 (v := .int .i64 0) rfl; have z2 := cellAt hz 2 (v := .string ⟨#[]⟩) rfl; have z3 := frozenAt hz 0; have z4 := frozenAt hz 1; have z5 := frozenAt hz 2
          (try simp only [World.cell?_drew, World.frozen?_drew] at z0 z1 z2 z3 z4 z5); go_simp; clear hz z0 z1 z2 z3 z4 z5; clear hH
          have T69 : Sep w ([valB _ cv, excB _ ⟨#[]⟩, valB _ x] ++ baseC) _ := (Sep.alloc (Sep.alloc T62 (.cells #[.string ⟨#[]⟩, .int .i64 0, .int .i64 0, .string ⟨#[]⟩, .bool false] 35)) (.cells #[.int .i64 cv.kind, .int .i64 cv.n, .string cv.s] 31)); (try simp only [size_drew, World.size_alloc] at T69)
          refine hK.out _ _ (KbaseC.out _ [_, _, _] T69) (fun hH => ?_); clear hK K; refine readyT [12] ?_; refine consT (fun K hK => ?_) AllReadyH.nil
          have hz := T69.box 1 rfl; have z0 := cellAt hz 0 (v := .string ⟨#[]⟩) rfl; have z1 := cellAt hz 1 (v := .int .i64 0) rfl; have z2 := cellAt hz 2 (v := .int .i64 0) rfl; have z3 := cellAt hz 3 (v := .string ⟨#[]⟩) rfl; have z4 := cellAt hz 4 (v := .bool false) rfl; have z5 := frozenAt hz 0; have z6 := frozenAt hz 1; have z7 := frozenAt hz 2; have z8 := frozenAt hz 3; have z9 := frozenAt hz 4
          (try simp only [World.cell?_drew, World.frozen?_drew] at z0 z1 z2 z3 z4 z5 z6 z7 z8 z9); go_simp; clear hz z0 z1 z2 z3 z4 z5 z6 z7 z8 z9; clear hH
          have T70 : Sep w ([valB _ cv, excB _ en, valB _ x] ++ baseC) _ := (Sep.alloc (Sep.alloc T62 (.cells #[.string en, .int .i64 0, .int .i64 0, .string ⟨#[]⟩, .bool false] 35)) (.cells #[.int .i64 cv.kind, .int .i64 cv.n, .string cv.s] 31)); (try simp only [size_drew, World.size_alloc] at T70)
          refine hK.out _ _ (KbaseC.out _ [_, _, _] T70) (fun hH => ?_); clear hK K
          refine wpAnyH_done (by kernel_rfl) ?_ _
          as_aux_lemma =>
           go_wp2_with fail
           go_meet
           exact ⟨[_, _, _], 1, 0, _, _, rfl, rfl, by decide, rfl, rfl, T70⟩
        ·
         go_simp
         have T71 : Sep w ([zeroB _, valB _ x] ++ baseB) _ := Sep.alloc T61 (.cells #[.int .i64 0, .int .i64 0, .string ⟨#[]⟩] 31); (try simp only [size_drew, World.size_alloc] at T71); clear hH; refine hK.out _ _ (KbaseB.out _ [_, _] T71) (fun hH => ?_); clear hK K; refine readyT [5, 10] ?_; refine consT (fun K hK => ?_) (consT (fun K hK => ?_) AllReadyH.nil)
         ·
          go_simp
          go_wp2_with (go_at_call 25; refine (KC.out _ [_, _] _ 1 rfl T71).mono ?_; rintro e w72 ⟨rfl, T72⟩); clear hH; refine hK.out _ _ (KbaseC.out _ [_, _] T72) (fun hH => ?_); clear hK K; refine takeT 6 hH (hy := .inl ⟨by rfl, by (intro w hSw; try obtain ⟨u0, u1, u2⟩ := hSw); (go_simp; try rfl)⟩) (h := ?_); simp only [Act.put, List.setIfInBounds_toArray, List.set_cons_zero, List.set_cons_succ]; refine takeT 7 hH (hy := .inl ⟨by rfl, by (intro w hSw; try obtain ⟨u0, u1, u2⟩ := hSw); (go_simp; try rfl)⟩) (h := ?_); simp only [Act.put, List.setIfInBounds_toArray, List.set_cons_zero, List.set_cons_succ]; refine takeT 8 hH (hy := .inl ⟨by rfl, by (intro w hSw; try obtain ⟨u0, u1, u2⟩ := hSw); (go_simp; try rfl)⟩) (h := ?_); simp only [Act.put, List.setIfInBounds_toArray, List.set_cons_zero, List.set_cons_succ]; refine readyT [10] ?_; refine consT (fun K hK => ?_) AllReadyH.nil; go_simp
          have T73 : Sep w ([excB _ ⟨#[]⟩, zeroB _, valB _ x] ++ baseC) _ := Sep.alloc T72 (.cells #[.string ⟨#[]⟩, .int .i64 0, .int .i64 0, .string ⟨#[]⟩, .bool false] 35); (try simp only [size_drew, World.size_alloc] at T73); clear hH; refine hK.out _ _ (KbaseC.out _ [_, _, _] T73) (fun hH => ?_); clear hK K; refine readyT [11] ?_; refine consT (fun K hK => ?_) AllReadyH.nil
          have hz := T73.box 1 rfl; have z0 := cellAt hz 0 (v := .int .i64 0) rfl; have z1 := cellAt hz 1 (v := .int .i64 0) rfl; have z2 := cellAt hz 2 (v := .string ⟨#[]⟩) rfl; have z3 := frozenAt hz 0; have z4 := frozenAt hz 1; have z5 := frozenAt hz 2
          (try simp only [World.cell?_drew, World.frozen?_drew] at z0 z1 z2 z3 z4 z5); go_simp; clear hz z0 z1 z2 z3 z4 z5; clear hH
          have T74 : Sep w ([excB _ ⟨#[]⟩, valB _ cv, valB _ x] ++ baseC) _ := (Sep.setBox (cs := #[.int .i64 cv.kind, .int .i64 cv.n, .string ⟨#[]⟩]) (t := 31) (Sep.setBox (cs := #[.int .i64 cv.kind, .int .i64 0, .string ⟨#[]⟩]) (t := 31) (Sep.setBox (cs := #[.int .i64 0, .int .i64 0, .string ⟨#[]⟩]) (t := 31) T73 1 rfl 0 (.int .i64 cv.kind)) 1 rfl 1 (.int .i64 cv.n)) 1 rfl 2 (.string cv.s)); (try simp only [size_drew, World.size_alloc] at T74)
          refine hK.out _ _ (KbaseC.out _ [_, _, _] T74) (fun hH => ?_); clear hK K; refine readyT [12] ?_; refine consT (fun K hK => ?_) AllReadyH.nil
          have hz := T74.box 0 rfl; have z0 := cellAt hz 0 (v := .string ⟨#[]⟩) rfl; have z1 := cellAt hz 1 (v := .int .i64 0) rfl; have z2 := cellAt hz 2 (v := .int .i64 0) rfl; have z3 := cellAt hz 3 (v := .string ⟨#[]⟩) rfl; have z4 := cellAt hz 4 (v := .bool false) rfl; have z5 := frozenAt hz 0; have z6 := frozenAt hz 1; have z7 := frozenAt hz 2; have z8 := frozenAt hz 3; have z9 := frozenAt hz 4
          (try simp only [World.cell?_drew, World.frozen?_drew] at z0 z1 z2 z3 z4 z5 z6 z7 z8 z9); go_simp; clear hz z0 z1 z2 z3 z4 z5 z6 z7 z8 z9; clear hH
          have T75 : Sep w ([excB _ en, valB _ cv, valB _ x] ++ baseC) _ := (Sep.setBox (cs := #[.string en, .int .i64 0, .int .i64 0, .string ⟨#[]⟩, .bool false]) (t := 35) (Sep.setBox (cs := #[.string en, .int .i64 0, .int .i64 0, .string ⟨#[]⟩, .bool false]) (t := 35) (Sep.setBox (cs := #[.string en, .int .i64 0, .int .i64 0, .string ⟨#[]⟩, .bool false]) (t := 35) (Sep.setBox (cs := #[.string en, .int .i64 0, .int .i64 0, .string ⟨#[]⟩, .bool false]) (t := 35) (Sep.setBox (cs := #[.string ⟨#[]⟩, .int .i64 0, .int .i64 0, .string ⟨#[]⟩, .bool false]) (t := 35) T74 0 rfl 0 (.string en)) 0 rfl 1 (.int .i64 0)) 0 rfl 2 (.int .i64 0)) 0 rfl 3 (.string ⟨#[]⟩)) 0 rfl 4 (.bool false)); (try simp only [size_drew, World.size_alloc] at T75)
          refine hK.out _ _ (KbaseC.out _ [_, _, _] T75) (fun hH => ?_); clear hK K
          refine wpAnyH_done (by kernel_rfl) ?_ _
          as_aux_lemma =>
           go_wp2_with fail
           go_meet
           exact ⟨[_, _, _], 0, 1, _, _, rfl, rfl, by decide, rfl, rfl, T75⟩
         ·
          go_simp
          have T76 : Sep w ([excB _ ⟨#[]⟩, zeroB _, valB _ x] ++ baseB) _ := Sep.alloc T71 (.cells #[.string ⟨#[]⟩, .int .i64 0, .int .i64 0, .string ⟨#[]⟩, .bool false] 35); (try simp only [size_drew, World.size_alloc] at T76); clear hH; refine hK.out _ _ (KbaseB.out _ [_, _, _] T76) (fun hH => ?_); clear hK K; refine readyT [5] ?_; refine consT (fun K hK => ?_) AllReadyH.nil; go_simp
          go_wp2_with (go_at_call 25; refine (KC.out _ [_, _, _] _ 2 rfl T76).mono ?_; rintro e w77 ⟨rfl, T77⟩); clear hH; refine hK.out _ _ (KbaseC.out _ [_, _, _] T77) (fun hH => ?_); clear hK K; refine takeT 6 hH (hy := .inl ⟨by rfl, by (intro w hSw; try obtain ⟨u0, u1, u2⟩ := hSw); (go_simp; try rfl)⟩) (h := ?_); simp only [Act.put, List.setIfInBounds_toArray, List.set_cons_zero, List.set_cons_succ]; refine takeT 7 hH (hy := .inl ⟨by rfl, by (intro w hSw; try obtain ⟨u0, u1, u2⟩ := hSw); (go_simp; try rfl)⟩) (h := ?_); simp only [Act.put, List.setIfInBounds_toArray, List.set_cons_zero, List.set_cons_succ]; refine takeT 8 hH (hy := .inl ⟨by rfl, by (intro w hSw; try obtain ⟨u0, u1, u2⟩ := hSw); (go_simp; try rfl)⟩) (h := ?_); simp only [Act.put, List.setIfInBounds_toArray, List.set_cons_zero, List.set_cons_succ]; refine readyT [11] ?_; refine consT (fun K hK => ?_) AllReadyH.nil
          have hz := T77.box 1 rfl; have z0 := cellAt hz 0 (v := .int .i64 0) rfl; have z1 := cellAt hz 1 (v := .int .i64 0) rfl; have z2 := cellAt hz 2 (v := .string ⟨#[]⟩) rfl; have z3 := frozenAt hz 0; have z4 := frozenAt hz 1; have z5 := frozenAt hz 2
          (try simp only [World.cell?_drew, World.frozen?_drew] at z0 z1 z2 z3 z4 z5); go_simp; clear hz z0 z1 z2 z3 z4 z5; clear hH
          have T78 : Sep w ([excB _ ⟨#[]⟩, valB _ cv, valB _ x] ++ baseC) _ := (Sep.setBox (cs := #[.int .i64 cv.kind, .int .i64 cv.n, .string ⟨#[]⟩]) (t := 31) (Sep.setBox (cs := #[.int .i64 cv.kind, .int .i64 0, .string ⟨#[]⟩]) (t := 31) (Sep.setBox (cs := #[.int .i64 0, .int .i64 0, .string ⟨#[]⟩]) (t := 31) T77 1 rfl 0 (.int .i64 cv.kind)) 1 rfl 1 (.int .i64 cv.n)) 1 rfl 2 (.string cv.s)); (try simp only [size_drew, World.size_alloc] at T78)
          refine hK.out _ _ (KbaseC.out _ [_, _, _] T78) (fun hH => ?_); clear hK K; refine readyT [12] ?_; refine consT (fun K hK => ?_) AllReadyH.nil
          have hz := T78.box 0 rfl; have z0 := cellAt hz 0 (v := .string ⟨#[]⟩) rfl; have z1 := cellAt hz 1 (v := .int .i64 0) rfl; have z2 := cellAt hz 2 (v := .int .i64 0) rfl; have z3 := cellAt hz 3 (v := .string ⟨#[]⟩) rfl; have z4 := cellAt hz 4 (v := .bool false) rfl; have z5 := frozenAt hz 0; have z6 := frozenAt hz 1; have z7 := frozenAt hz 2; have z8 := frozenAt hz 3; have z9 := frozenAt hz 4
          (try simp only [World.cell?_drew, World.frozen?_drew] at z0 z1 z2 z3 z4 z5 z6 z7 z8 z9); go_simp; clear hz z0 z1 z2 z3 z4 z5 z6 z7 z8 z9; clear hH
          have T79 : Sep w ([excB _ en, valB _ cv, valB _ x] ++ baseC) _ := (Sep.setBox (cs := #[.string en, .int .i64 0, .int .i64 0, .string ⟨#[]⟩, .bool false]) (t := 35) (Sep.setBox (cs := #[.string en, .int .i64 0, .int .i64 0, .string ⟨#[]⟩, .bool false]) (t := 35) (Sep.setBox (cs := #[.string en, .int .i64 0, .int .i64 0, .string ⟨#[]⟩, .bool false]) (t := 35) (Sep.setBox (cs := #[.string en, .int .i64 0, .int .i64 0, .string ⟨#[]⟩, .bool false]) (t := 35) (Sep.setBox (cs := #[.string ⟨#[]⟩, .int .i64 0, .int .i64 0, .string ⟨#[]⟩, .bool false]) (t := 35) T78 0 rfl 0 (.string en)) 0 rfl 1 (.int .i64 0)) 0 rfl 2 (.int .i64 0)) 0 rfl 3 (.string ⟨#[]⟩)) 0 rfl 4 (.bool false)); (try simp only [size_drew, World.size_alloc] at T79)
          refine hK.out _ _ (KbaseC.out _ [_, _, _] T79) (fun hH => ?_); clear hK K
          refine wpAnyH_done (by kernel_rfl) ?_ _
          as_aux_lemma =>
           go_wp2_with fail
           go_meet
           exact ⟨[_, _, _], 0, 1, _, _, rfl, rfl, by decide, rfl, rfl, T79⟩
        ·
         go_simp
         have T80 : Sep w ([excB _ ⟨#[]⟩, valB _ x] ++ baseB) _ := Sep.alloc T61 (.cells #[.string ⟨#[]⟩, .int .i64 0, .int .i64 0, .string ⟨#[]⟩, .bool false] 35); (try simp only [size_drew, World.size_alloc] at T80); clear hH; refine hK.out _ _ (KbaseB.out _ [_, _] T80) (fun hH => ?_); clear hK K; refine readyT [5, 9] ?_; refine consT (fun K hK => ?_) (consT (fun K hK => ?_) AllReadyH.nil)
         ·
          go_simp
          go_wp2_with (go_at_call 25; refine (KC.out _ [_, _] _ 1 rfl T80).mono ?_; rintro e w81 ⟨rfl, T81⟩); clear hH; refine hK.out _ _ (KbaseC.out _ [_, _] T81) (fun hH => ?_); clear hK K; refine takeT 6 hH (hy := .inl ⟨by rfl, by (intro w hSw; try obtain ⟨u0, u1, u2⟩ := hSw); (go_simp; try rfl)⟩) (h := ?_); simp only [Act.put, List.setIfInBounds_toArray, List.set_cons_zero, List.set_cons_succ]; refine takeT 7 hH (hy := .inl ⟨by rfl, by (intro w hSw; try obtain ⟨u0, u1, u2⟩ := hSw); (go_simp; try rfl)⟩) (h := ?_); simp only [Act.put, List.setIfInBounds_toArray, List.set_cons_zero, List.set_cons_succ]; refine takeT 8 hH (hy := .inl ⟨by rfl, by (intro w hSw; try obtain ⟨u0, u1, u2⟩ := hSw); (go_simp; try rfl)⟩) (h := ?_); simp only [Act.put, List.setIfInBounds_toArray, List.set_cons_zero, List.set_cons_succ]; refine readyT [9] ?_; refine consT (fun K hK => ?_) AllReadyH.nil; go_simp
          have T82 : Sep w ([zeroB _, excB _ ⟨#[]⟩, valB _ x] ++ baseC) _ := Sep.alloc T81 (.cells #[.int .i64 0, .int .i64 0, .string ⟨#[]⟩] 31); (try simp only [size_drew, World.size_alloc] at T82); clear hH; refine hK.out _ _ (KbaseC.out _ [_, _, _] T82) (fun hH => ?_); clear hK K; refine readyT [11] ?_; refine consT (fun K hK => ?_) AllReadyH.nil
          have hz := T82.box 0 rfl; have z0 := cellAt hz 0 (v := .int .i64 0) rfl; have z1 := cellAt hz 1 (v := .int .i64 0) rfl; have z2 := cellAt hz 2 (v := .string ⟨#[]⟩) rfl; have z3 := frozenAt hz 0; have z4 := frozenAt hz 1; have z5 := frozenAt hz 2
          (try simp only [World.cell?_drew, World.frozen?_drew] at z0 z1 z2 z3 z4 z5); go_simp; clear hz z0 z1 z2 z3 z4 z5; clear hH
          have T83 : Sep w ([valB _ cv, excB _ ⟨#[]⟩, valB _ x] ++ baseC) _ := (Sep.alloc T81 (.cells #[.int .i64 cv.kind, .int .i64 cv.n, .string cv.s] 31)); (try simp only [size_drew, World.size_alloc] at T83)
          refine hK.out _ _ (KbaseC.out _ [_, _, _] T83) (fun hH => ?_); clear hK K; refine readyT [12] ?_; refine consT (fun K hK => ?_) AllReadyH.nil
          have hz := T83.box 1 rfl; have z0 := cellAt hz 0 (v := .string ⟨#[]⟩) rfl; have z1 := cellAt hz 1 (v := .int .i64 0) rfl; have z2 := cellAt hz 2 (v := .int .i64 0) rfl; have z3 := cellAt hz 3 (v := .string ⟨#[]⟩) rfl; have z4 := cellAt hz 4 (v := .bool false) rfl; have z5 := frozenAt hz 0; have z6 := frozenAt hz 1; have z7 := frozenAt hz 2; have z8 := frozenAt hz 3; have z9 := frozenAt hz 4
          (try simp only [World.cell?_drew, World.frozen?_drew] at z0 z1 z2 z3 z4 z5 z6 z7 z8 z9); go_simp; clear hz z0 z1 z2 z3 z4 z5 z6 z7 z8 z9; clear hH
          have T84 : Sep w ([valB _ cv, excB _ en, valB _ x] ++ baseC) _ := (Sep.setBox (cs := #[.string en, .int .i64 0, .int .i64 0, .string ⟨#[]⟩, .bool false]) (t := 35) (Sep.setBox (cs := #[.string en, .int .i64 0, .int .i64 0, .string ⟨#[]⟩, .bool false]) (t := 35) (Sep.setBox (cs := #[.string en, .int .i64 0, .int .i64 0, .string ⟨#[]⟩, .bool false]) (t := 35) (Sep.setBox (cs := #[.string en, .int .i64 0, .int .i64 0, .string ⟨#[]⟩, .bool false]) (t := 35) (Sep.setBox (cs := #[.string ⟨#[]⟩, .int .i64 0, .int .i64 0, .string ⟨#[]⟩, .bool false]) (t := 35) T83 1 rfl 0 (.string en)) 1 rfl 1 (.int .i64 0)) 1 rfl 2 (.int .i64 0)) 1 rfl 3 (.string ⟨#[]⟩)) 1 rfl 4 (.bool false)); (try simp only [size_drew, World.size_alloc] at T84)
          refine hK.out _ _ (KbaseC.out _ [_, _, _] T84) (fun hH => ?_); clear hK K
          refine wpAnyH_done (by kernel_rfl) ?_ _
          as_aux_lemma =>
           go_wp2_with fail
           go_meet
           exact ⟨[_, _, _], 1, 0, _, _, rfl, rfl, by decide, rfl, rfl, T84⟩
         ·
          go_simp
          have T85 : Sep w ([zeroB _, excB _ ⟨#[]⟩, valB _ x] ++ baseB) _ := Sep.alloc T80 (.cells #[.int .i64 0, .int .i64 0, .string ⟨#[]⟩] 31); (try simp only [size_drew, World.size_alloc] at T85); clear hH; refine hK.out _ _ (KbaseB.out _ [_, _, _] T85) (fun hH => ?_); clear hK K; refine readyT [5] ?_; refine consT (fun K hK => ?_) AllReadyH.nil; go_simp
          go_wp2_with (go_at_call 25; refine (KC.out _ [_, _, _] _ 2 rfl T85).mono ?_; rintro e w86 ⟨rfl, T86⟩); clear hH; refine hK.out _ _ (KbaseC.out _ [_, _, _] T86) (fun hH => ?_); clear hK K; refine takeT 6 hH (hy := .inl ⟨by rfl, by (intro w hSw; try obtain ⟨u0, u1, u2⟩ := hSw); (go_simp; try rfl)⟩) (h := ?_); simp only [Act.put, List.setIfInBounds_toArray, List.set_cons_zero, List.set_cons_succ]; refine takeT 7 hH (hy := .inl ⟨by rfl, by (intro w hSw; try obtain ⟨u0, u1, u2⟩ := hSw); (go_simp; try rfl)⟩) (h := ?_); simp only [Act.put, List.setIfInBounds_toArray, List.set_cons_zero, List.set_cons_succ]; refine takeT 8 hH (hy := .inl ⟨by rfl, by (intro w hSw; try obtain ⟨u0, u1, u2⟩ := hSw); (go_simp; try rfl)⟩) (h := ?_); simp only [Act.put, List.setIfInBounds_toArray, List.set_cons_zero, List.set_cons_succ]; refine readyT [11] ?_; refine consT (fun K hK => ?_) AllReadyH.nil
          have hz := T86.box 0 rfl; have z0 := cellAt hz 0 (v := .int .i64 0) rfl; have z1 := cellAt hz 1 (v := .int .i64 0) rfl; have z2 := cellAt hz 2 (v := .string ⟨#[]⟩) rfl; have z3 := frozenAt hz 0; have z4 := frozenAt hz 1; have z5 := frozenAt hz 2
          (try simp only [World.cell?_drew, World.frozen?_drew] at z0 z1 z2 z3 z4 z5); go_simp; clear hz z0 z1 z2 z3 z4 z5; clear hH
          have T87 : Sep w ([valB _ cv, excB _ ⟨#[]⟩, valB _ x] ++ baseC) _ := (Sep.setBox (cs := #[.int .i64 cv.kind, .int .i64 cv.n, .string ⟨#[]⟩]) (t := 31) (Sep.setBox (cs := #[.int .i64 cv.kind, .int .i64 0, .string ⟨#[]⟩]) (t := 31) (Sep.setBox (cs := #[.int .i64 0, .int .i64 0, .string ⟨#[]⟩]) (t := 31) T86 0 rfl 0 (.int .i64 cv.kind)) 0 rfl 1 (.int .i64 cv.n)) 0 rfl 2 (.string cv.s)); (try simp only [size_drew, World.size_alloc] at T87)
          refine hK.out _ _ (KbaseC.out _ [_, _, _] T87) (fun hH => ?_); clear hK K; refine readyT [12] ?_; refine consT (fun K hK => ?_) AllReadyH.nil
          have hz := T87.box 1 rfl; have z0 := cellAt hz 0 (v := .string ⟨#[]⟩) rfl; have z1 := cellAt hz 1 (v := .int .i64 0) rfl; have z2 := cellAt hz 2 (v := .int .i64 0) rfl; have z3 := cellAt hz 3 (v := .string ⟨#[]⟩) rfl; have z4 := cellAt hz 4 (v := .bool false) rfl; have z5 := frozenAt hz 0; have z6 := frozenAt hz 1; have z7 := frozenAt hz 2; have z8 := frozenAt hz 3; have z9 := frozenAt hz 4
          (try simp only [World.cell?_drew, World.frozen?_drew] at z0 z1 z2 z3 z4 z5 z6 z7 z8 z9); go_simp; clear hz z0 z1 z2 z3 z4 z5 z6 z7 z8 z9; clear hH
          have T88 : Sep w ([valB _ cv, excB _ en, valB _ x] ++ baseC) _ := (Sep.setBox (cs := #[.string en, .int .i64 0, .int .i64 0, .string ⟨#[]⟩, .bool false]) (t := 35) (Sep.setBox (cs := #[.string en, .int .i64 0, .int .i64 0, .string ⟨#[]⟩, .bool false]) (t := 35) (Sep.setBox (cs := #[.string en, .int .i64 0, .int .i64 0, .string ⟨#[]⟩, .bool false]) (t := 35) (Sep.setBox (cs := #[.string en, .int .i64 0, .int .i64 0, .string ⟨#[]⟩, .bool false]) (t := 35) (Sep.setBox (cs := #[.string ⟨#[]⟩, .int .i64 0, .int .i64 0, .string ⟨#[]⟩, .bool false]) (t := 35) T87 1 rfl 0 (.string en)) 1 rfl 1 (.int .i64 0)) 1 rfl 2 (.int .i64 0)) 1 rfl 3 (.string ⟨#[]⟩)) 1 rfl 4 (.bool false)); (try simp only [size_drew, World.size_alloc] at T88)
          refine hK.out _ _ (KbaseC.out _ [_, _, _] T88) (fun hH => ?_); clear hK K
          refine wpAnyH_done (by kernel_rfl) ?_ _
          as_aux_lemma =>
           go_wp2_with fail
           go_meet
           exact ⟨[_, _, _], 1, 0, _, _, rfl, rfl, by decide, rfl, rfl, T88⟩
       ·
        go_simp
        have T89 : Sep w ([zeroB _] ++ baseB) _ := Sep.alloc T60 (.cells #[.int .i64 0, .int .i64 0, .string ⟨#[]⟩] 31); (try simp only [size_drew, World.size_alloc] at T89); clear hH; refine hK.out _ _ (KbaseB.out _ [_] T89) (fun hH => ?_); clear hK K; refine readyT [2, 10] ?_; refine consT (fun K hK => ?_) (consT (fun K hK => ?_) AllReadyH.nil)
        ·
         go_simp
         have T90 : Sep w ([valB _ x, zeroB _] ++ baseB) _ := Sep.alloc T89 (.cells #[.int .i64 x.kind, .int .i64 x.n, .string x.s] 31); (try simp only [size_drew, World.size_alloc] at T90); clear hH; refine hK.out _ _ (KbaseB.out _ [_, _] T90) (fun hH => ?_); clear hK K; refine readyT [5, 10] ?_; refine consT (fun K hK => ?_) (consT (fun K hK => ?_) AllReadyH.nil)
         ·
          go_simp
          go_wp2_with (go_at_call 25; refine (KC.out _ [_, _] _ 0 rfl T90).mono ?_; rintro e w91 ⟨rfl, T91⟩); clear hH; refine hK.out _ _ (KbaseC.out _ [_, _] T91) (fun hH => ?_); clear hK K; refine takeT 6 hH (hy := .inl ⟨by rfl, by (intro w hSw; try obtain ⟨u0, u1, u2⟩ := hSw); (go_simp; try rfl)⟩) (h := ?_); simp only [Act.put, List.setIfInBounds_toArray, List.set_cons_zero, List.set_cons_succ]; refine takeT 7 hH (hy := .inl ⟨by rfl, by (intro w hSw; try obtain ⟨u0, u1, u2⟩ := hSw); (go_simp; try rfl)⟩) (h := ?_); simp only [Act.put, List.setIfInBounds_toArray, List.set_cons_zero, List.set_cons_succ]; refine takeT 8 hH (hy := .inl ⟨by rfl, by (intro w hSw; try obtain ⟨u0, u1, u2⟩ := hSw); (go_simp; try rfl)⟩) (h := ?_); simp only [Act.put, List.setIfInBounds_toArray, List.set_cons_zero, List.set_cons_succ]; refine readyT [10] ?_; refine consT (fun K hK => ?_) AllReadyH.nil; go_simp
          have T92 : Sep w ([excB _ ⟨#[]⟩, valB _ x, zeroB _] ++ baseC) _ := Sep.alloc T91 (.cells #[.string ⟨#[]⟩, .int .i64 0, .int .i64 0, .string ⟨#[]⟩, .bool false] 35); (try simp only [size_drew, World.size_alloc] at T92); clear hH; refine hK.out _ _ (KbaseC.out _ [_, _, _] T92) (fun hH => ?_); clear hK K; refine readyT [11] ?_; refine consT (fun K hK => ?_) AllReadyH.nil
          have hz := T92.box 2 rfl; have z0 := cellAt hz 0 (v := .int .i64 0) rfl; have z1 := cellAt hz 1 (v := .int .i64 0) rfl; have z2 := cellAt hz 2 (v := .string ⟨#[]⟩) rfl; have z3 := frozenAt hz 0; have z4 := frozenAt hz 1; have z5 := frozenAt hz 2
          (try simp only [World.cell?_drew, World.frozen?_drew] at z0 z1 z2 z3 z4 z5); go_simp; clear hz z0 z1 z2 z3 z4 z5; clear hH
          have T93 : Sep w ([excB _ ⟨#[]⟩, valB _ x, valB _ cv] ++ baseC) _ := (Sep.setBox (cs := #[.int .i64 cv.kind, .int .i64 cv.n, .string ⟨#[]⟩]) (t := 31) (Sep.setBox (cs := #[.int .i64 cv.kind, .int .i64 0, .string ⟨#[]⟩]) (t := 31) (Sep.setBox (cs := #[.int .i64 0, .int .i64 0, .string ⟨#[]⟩]) (t := 31) T92 2 rfl 0 (.int .i64 cv.kind)) 2 rfl 1 (.int .i64 cv.n)) 2 rfl 2 (.string cv.s)); (try simp only [size_drew, World.size_alloc] at T93)
          refine hK.out _ _ (KbaseC.out _ [_, _, _] T93) (fun hH => ?_); clear hK K; refine readyT [12] ?_; refine consT (fun K hK => ?_) AllReadyH.nil
          have hz := T93.box 0 rfl; have z0 := cellAt hz 0 (v := .string ⟨#[]⟩) rfl; have z1 := cellAt hz 1 (v := .int .i64 0) rfl; have z2 := cellAt hz 2 (v := .int .i64 0) rfl; have z3 := cellAt hz 3 (v := .string ⟨#[]⟩) rfl; have z4 := cellAt hz 4 (v := .bool false) rfl; have z5 := frozenAt hz 0; have z6 := frozenAt hz 1; have z7 := frozenAt hz 2; have z8 := frozenAt hz 3; have z9 := frozenAt hz 4
          (try simp only [World.cell?_drew, World.frozen?_drew] at z0 z1 z2 z3 z4 z5 z6 z7 z8 z9); go_simp; clear hz z0 z1 z2 z3 z4 z5 z6 z7 z8 z9; clear hH
          have T94 : Sep w ([excB _ en, valB _ x, valB _ cv] ++ baseC) _ := (Sep.setBox (cs := #[.string en, .int .i64 0, .int .i64 0, .string ⟨#[]⟩, .bool false]) (t := 35) (Sep.setBox (cs := #[.string en, .int .i64 0, .int .i64 0, .string ⟨#[]⟩, .bool false]) (t := 35) (Sep.setBox (cs := #[.string en, .int .i64 0, .int .i64 0, .string ⟨#[]⟩, .bool false]) (t := 35) (Sep.setBox (cs := #[.string en, .int .i64 0, .int .i64 0, .string ⟨#[]⟩, .bool false]) (t := 35) (Sep.setBox (cs := #[.string ⟨#[]⟩, .int .i64 0, .int .i64 0, .string ⟨#[]⟩, .bool false]) (t := 35) T93 0 rfl 0 (.string en)) 0 rfl 1 (.int .i64 0)) 0 rfl 2 (.int .i64 0)) 0 rfl 3 (.string ⟨#[]⟩)) 0 rfl 4 (.bool false)); (try simp only [size_drew, World.size_alloc] at T94)
          refine hK.out _ _ (KbaseC.out _ [_, _, _] T94) (fun hH => ?_); clear hK K
          refine wpAnyH_done (by kernel_rfl) ?_ _
          as_aux_lemma =>
           go_wp2_with fail
           go_meet
           exact ⟨[_, _, _], 0, 2, _, _, rfl, rfl, by decide, rfl, rfl, T94⟩
         ·
          go_simp
          have T95 : Sep w ([excB _ ⟨#[]⟩, valB _ x, zeroB _] ++ baseB) _ := Sep.alloc T90 (.cells #[.string ⟨#[]⟩, .int .i64 0, .int .i64 0, .string ⟨#[]⟩, .bool false] 35); (try simp only [size_drew, World.size_alloc] at T95); clear hH; refine hK.out _ _ (KbaseB.out _ [_, _, _] T95) (fun hH => ?_); clear hK K; refine readyT [5] ?_; refine consT (fun K hK => ?_) AllReadyH.nil; go_simp
          go_wp2_with (go_at_call 25; refine (KC.out _ [_, _, _] _ 1 rfl T95).mono ?_; rintro e w96 ⟨rfl, T96⟩); clear hH; refine hK.out _ _ (KbaseC.out _ [_, _, _] T96) (fun hH => ?_); clear hK K; refine takeT 6 hH (hy := .inl ⟨by rfl, by (intro w hSw; try obtain ⟨u0, u1, u2⟩ := hSw); (go_simp; try rfl)⟩) (h := ?_); simp only [Act.put, List.setIfInBounds_toArray, List.set_cons_zero, List.set_cons_succ]; refine takeT 7 hH (hy := .inl ⟨by rfl, by (intro w hSw; try obtain ⟨u0, u1, u2⟩ := hSw); (go_simp; try rfl)⟩) (h := ?_); simp only [Act.put, List.setIfInBounds_toArray, List.set_cons_zero, List.set_cons_succ]; refine takeT 8 hH (hy := .inl ⟨by rfl, by (intro w hSw; try obtain ⟨u0, u1, u2⟩ := hSw); (go_simp; try rfl)⟩) (h := ?_); simp only [Act.put, List.setIfInBounds_toArray, List.set_cons_zero, List.set_cons_succ]; refine readyT [11] ?_; refine consT (fun K hK => ?_) AllReadyH.nil
          have hz := T96.box 2 rfl; have z0 := cellAt hz 0 (v := .int .i64 0) rfl; have z1 := cellAt hz 1 (v := .int .i64 0) rfl; have z2 := cellAt hz 2 (v := .string ⟨#[]⟩) rfl; have z3 := frozenAt hz 0; have z4 := frozenAt hz 1; have z5 := frozenAt hz 2
          (try simp only [World.cell?_drew, World.frozen?_drew] at z0 z1 z2 z3 z4 z5); go_simp; clear hz z0 z1 z2 z3 z4 z5; clear hH
          have T97 : Sep w ([excB _ ⟨#[]⟩, valB _ x, valB _ cv] ++ baseC) _ := (Sep.setBox (cs := #[.int .i64 cv.kind, .int .i64 cv.n, .string ⟨#[]⟩]) (t := 31) (Sep.setBox (cs := #[.int .i64 cv.kind, .int .i64 0, .string ⟨#[]⟩]) (t := 31) (Sep.setBox (cs := #[.int .i64 0, .int .i64 0, .string ⟨#[]⟩]) (t := 31) T96 2 rfl 0 (.int .i64 cv.kind)) 2 rfl 1 (.int .i64 cv.n)) 2 rfl 2 (.string cv.s)); (try simp only [size_drew, World.size_alloc] at T97)
          refine hK.out _ _ (KbaseC.out _ [_, _, _] T97) (fun hH => ?_); clear hK K; refine readyT [12] ?_; refine consT (fun K hK => ?_) AllReadyH.nil
          have hz := T97.box 0 rfl; have z0 := cellAt hz 0 (v := .string ⟨#[]⟩) rfl; have z1 := cellAt hz 1 (v := .int .i64 0) rfl; have z2 := cellAt hz 2 (v := .int .i64 0) rfl; have z3 := cellAt hz 3 (v := .string ⟨#[]⟩) rfl; have z4 := cellAt hz 4 (v := .bool false) rfl; have z5 := frozenAt hz 0; have z6 := frozenAt hz 1; have z7 := frozenAt hz 2; have z8 := frozenAt hz 3; have z9 := frozenAt hz 4
          (try simp only [World.cell?_drew, World.frozen?_drew] at z0 z1 z2 z3 z4 z5 z6 z7 z8 z9); go_simp; clear hz z0 z1 z2 z3 z4 z5 z6 z7 z8 z9; clear hH
          have T98 : Sep w ([excB _ en, valB _ x, valB _ cv] ++ baseC) _ := (Sep.setBox (cs := #[.string en, .int .i64 0, .int .i64 0, .string ⟨#[]⟩, .bool false]) (t := 35) (Sep.setBox (cs := #[.string en, .int .i64 0, .int .i64 0, .string ⟨#[]⟩, .bool false]) (t := 35) (Sep.setBox (cs := #[.string en, .int .i64 0, .int .i64 0, .string ⟨#[]⟩, .bool false]) (t := 35) (Sep.setBox (cs := #[.string en, .int .i64 0, .int .i64 0, .string ⟨#[]⟩, .bool false]) (t := 35) (Sep.setBox (cs := #[.string ⟨#[]⟩, .int .i64 0, .int .i64 0, .string ⟨#[]⟩, .bool false]) (t := 35) T97 0 rfl 0 (.string en)) 0 rfl 1 (.int .i64 0)) 0 rfl 2 (.int .i64 0)) 0 rfl 3 (.string ⟨#[]⟩)) 0 rfl 4 (.bool false)); (try simp only [size_drew, World.size_alloc] at T98)
          refine hK.out _ _ (KbaseC.out _ [_, _, _] T98) (fun hH => ?_); clear hK K
          refine wpAnyH_done (by kernel_rfl) ?_ _
          as_aux_lemma =>
           go_wp2_with fail
           go_meet
           exact ⟨[_, _, _], 0, 2, _, _, rfl, rfl, by decide, rfl, rfl, T98⟩
        ·
         go_simp
         have T99 : Sep w ([excB _ ⟨#[]⟩, zeroB _] ++ baseB) _ := Sep.alloc T89 (.cells #[.string ⟨#[]⟩, .int .i64 0, .int .i64 0, .string ⟨#[]⟩, .bool false] 35); (try simp only [size_drew, World.size_alloc] at T99); clear hH; refine hK.out _ _ (KbaseB.out _ [_, _] T99) (fun hH => ?_); clear hK K; refine readyT [2] ?_; refine consT (fun K hK => ?_) AllReadyH.nil; go_simp
         have T100 : Sep w ([valB _ x, excB _ ⟨#[]⟩, zeroB _] ++ baseB) _ := Sep.alloc T99 (.cells #[.int .i64 x.kind, .int .i64 x.n, .string x.s] 31); (try simp only [size_drew, World.size_alloc] at T100); clear hH; refine hK.out _ _ (KbaseB.out _ [_, _, _] T100) (fun hH => ?_); clear hK K; refine readyT [5] ?_; refine consT (fun K hK => ?_) AllReadyH.nil; go_simp
         go_wp2_with (go_at_call 25; refine (KC.out _ [_, _, _] _ 0 rfl T100).mono ?_; rintro e w101 ⟨rfl, T101⟩); clear hH; refine hK.out _ _ (KbaseC.out _ [_, _, _] T101) (fun hH => ?_); clear hK K; refine takeT 6 hH (hy := .inl ⟨by rfl, by (intro w hSw; try obtain ⟨u0, u1, u2⟩ := hSw); (go_simp; try rfl)⟩) (h := ?_); simp only [Act.put, List.setIfInBounds_toArray, List.set_cons_zero, List.set_cons_succ]; refine takeT 7 hH (hy := .inl ⟨by rfl, by (intro w hSw; try obtain ⟨u0, u1, u2⟩ := hSw); (go_simp; try rfl)⟩) (h := ?_); simp only [Act.put, List.setIfInBounds_toArray, List.set_cons_zero, List.set_cons_succ]; refine takeT 8 hH (hy := .inl ⟨by rfl, by (intro w hSw; try obtain ⟨u0, u1, u2⟩ := hSw); (go_simp; try rfl)⟩) (h := ?_); simp only [Act.put, List.setIfInBounds_toArray, List.set_cons_zero, List.set_cons_succ]; refine readyT [11] ?_; refine consT (fun K hK => ?_) AllReadyH.nil
         have hz := T101.box 2 rfl; have z0 := cellAt hz 0 (v := .int .i64 0) rfl; have z1 := cellAt hz 1 (v := .int .i64 0) rfl; have z2 := cellAt hz 2 (v := .string ⟨#[]⟩) rfl; have z3 := frozenAt hz 0; have z4 := frozenAt hz 1; have z5 := frozenAt hz 2
         (try simp only [World.cell?_drew, World.frozen?_drew] at z0 z1 z2 z3 z4 z5); go_simp; clear hz z0 z1 z2 z3 z4 z5; clear hH
         have T102 : Sep w ([valB _ x, excB _ ⟨#[]⟩, valB _ cv] ++ baseC) _ := (Sep.setBox (cs := #[.int .i64 cv.kind, .int .i64 cv.n, .string ⟨#[]⟩]) (t := 31) (Sep.setBox (cs := #[.int .i64 cv.kind, .int .i64 0, .string ⟨#[]⟩]) (t := 31) (Sep.setBox (cs := #[.int .i64 0, .int .i64 0, .string ⟨#[]⟩]) (t := 31) T101 2 rfl 0 (.int .i64 cv.kind)) 2 rfl 1 (.int .i64 cv.n)) 2 rfl 2 (.string cv.s)); (try simp only [size_drew, World.size_alloc] at T102)
         refine hK.out _ _ (KbaseC.out _ [_, _, _] T102) (fun hH => ?_); clear hK K; refine readyT [12] ?_; refine consT (fun K hK => ?_) AllReadyH.nil
         have hz := T102.box 1 rfl; have z0 := cellAt hz 0 (v := .string ⟨#[]⟩) rfl; have z1 := cellAt hz 1 (v := .int .i64 0) rfl; have z2 := cellAt hz 2 (v := .int .i64 0) rfl; have z3 := cellAt hz 3 (v := .string ⟨#[]⟩) rfl; have z4 := cellAt hz 4 (v := .bool false) rfl; have z5 := frozenAt hz 0; have z6 := frozenAt hz 1; have z7 := frozenAt hz 2; have z8 := frozenAt hz 3; have z9 := frozenAt hz 4
         (try simp only [World.cell?_drew, World.frozen?_drew] at z0 z1 z2 z3 z4 z5 z6 z7 z8 z9); go_simp; clear hz z0 z1 z2 z3 z4 z5 z6 z7 z8 z9; clear hH
         have T103 : Sep w ([valB _ x, excB _ en, valB _ cv] ++ baseC) _ := (Sep.setBox (cs := #[.string en, .int .i64 0, .int .i64 0, .string ⟨#[]⟩, .bool false]) (t := 35) (Sep.setBox (cs := #[.string en, .int .i64 0, .int .i64 0, .string ⟨#[]⟩, .bool false]) (t := 35) (Sep.setBox (cs := #[.string en, .int .i64 0, .int .i64 0, .string ⟨#[]⟩, .bool false]) (t := 35) (Sep.setBox (cs := #[.string en, .int .i64 0, .int .i64 0, .string ⟨#[]⟩, .bool false]) (t := 35) (Sep.setBox (cs := #[.string ⟨#[]⟩, .int .i64 0, .int .i64 0, .string ⟨#[]⟩, .bool false]) (t := 35) T102 1 rfl 0 (.string en)) 1 rfl 1 (.int .i64 0)) 1 rfl 2 (.int .i64 0)) 1 rfl 3 (.string ⟨#[]⟩)) 1 rfl 4 (.bool false)); (try simp only [size_drew, World.size_alloc] at T103)
         refine hK.out _ _ (KbaseC.out _ [_, _, _] T103) (fun hH => ?_); clear hK K
         refine wpAnyH_done (by kernel_rfl) ?_ _
         as_aux_lemma =>
          go_wp2_with fail
          go_meet
          exact ⟨[_, _, _], 1, 2, _, _, rfl, rfl, by decide, rfl, rfl, T103⟩
       ·
        go_simp
        have T104 : Sep w ([excB _ ⟨#[]⟩] ++ baseB) _ := Sep.alloc T60 (.cells #[.string ⟨#[]⟩, .int .i64 0, .int .i64 0, .string ⟨#[]⟩, .bool false] 35); (try simp only [size_drew, World.size_alloc] at T104); clear hH; refine hK.out _ _ (KbaseB.out _ [_] T104) (fun hH => ?_); clear hK K; refine readyT [2, 9] ?_; refine consT (fun K hK => ?_) (consT (fun K hK => ?_) AllReadyH.nil)
        ·
         go_simp
         have T105 : Sep w ([valB _ x, excB _ ⟨#[]⟩] ++ baseB) _ := Sep.alloc T104 (.cells #[.int .i64 x.kind, .int .i64 x.n, .string x.s] 31); (try simp only [size_drew, World.size_alloc] at T105); clear hH; refine hK.out _ _ (KbaseB.out _ [_, _] T105) (fun hH => ?_); clear hK K; refine readyT [5, 9] ?_; refine consT (fun K hK => ?_) (consT (fun K hK => ?_) AllReadyH.nil)
         ·
          go_simp
          go_wp2_with (go_at_call 25; refine (KC.out _ [_, _] _ 0 rfl T105).mono ?_; rintro e w106 ⟨rfl, T106⟩); clear hH; refine hK.out _ _ (KbaseC.out _ [_, _] T106) (fun hH => ?_); clear hK K; refine takeT 6 hH (hy := .inl ⟨by rfl, by (intro w hSw; try obtain ⟨u0, u1, u2⟩ := hSw); (go_simp; try rfl)⟩) (h := ?_); simp only [Act.put, List.setIfInBounds_toArray, List.set_cons_zero, List.set_cons_succ]; refine takeT 7 hH (hy := .inl ⟨by rfl, by (intro w hSw; try obtain ⟨u0, u1, u2⟩ := hSw); (go_simp; try rfl)⟩) (h := ?_); simp only [Act.put, List.setIfInBounds_toArray, List.set_cons_zero, List.set_cons_succ]; refine takeT 8 hH (hy := .inl ⟨by rfl, by (intro w hSw; try obtain ⟨u0, u1, u2⟩ := hSw); (go_simp; try rfl)⟩) (h := ?_); simp only [Act.put, List.setIfInBounds_toArray, List.set_cons_zero, List.set_cons_succ]; refine readyT [9] ?_; refine consT (fun K hK => ?_) AllReadyH.nil; go_simp
          have T107 : Sep w ([zeroB _, valB _ x, excB _ ⟨#[]⟩] ++ baseC) _ := Sep.alloc T106 (.cells #[.int .i64 0, .int .i64 0, .string ⟨#[]⟩] 31); (try simp only [size_drew, World.size_alloc] at T107); clear hH; refine hK.out _ _ (KbaseC.out _ [_, _, _] T107) (fun hH => ?_); clear hK K; refine readyT [11] ?_; refine consT (fun K hK => ?_) AllReadyH.nil
          have hz := T107.box 0 rfl; have z0 := cellAt hz 0 (v := .int .i64 0) rfl; have z1 := cellAt hz 1 (v := .int .i64 0) rfl; have z2 := cellAt hz 2 (v := .string ⟨#[]⟩) rfl; have z3 := frozenAt hz 0; have z4 := frozenAt hz 1; have z5 := frozenAt hz 2
          (try simp only [World.cell?_drew, World.frozen?_drew] at z0 z1 z2 z3 z4 z5); go_simp; clear hz z0 z1 z2 z3 z4 z5; clear hH
          have T108 : Sep w ([valB _ cv, valB _ x, excB _ ⟨#[]⟩] ++ baseC) _ := (Sep.alloc T106 (.cells #[.int .i64 cv.kind, .int .i64 cv.n, .string cv.s] 31)); (try simp only [size_drew, World.size_alloc] at T108)
          refine hK.out _ _ (KbaseC.out _ [_, _, _] T108) (fun hH => ?_); clear hK K; refine readyT [12] ?_; refine consT (fun K hK => ?_) AllReadyH.nil
          have hz := T108.box 2 rfl; have z0 := cellAt hz 0 (v := .string ⟨#[]⟩) rfl; have z1 := cellAt hz 1 (v := .int .i64 0) rfl; have z2 := cellAt hz 2 (v := .int .i64 0) rfl; have z3 := cellAt hz 3 (v := .string ⟨#[]⟩) rfl; have z4 := cellAt hz 4 (v := .bool false) rfl; have z5 := frozenAt hz 0; have z6 := frozenAt hz 1; have z7 := frozenAt hz 2; have z8 := frozenAt hz 3; have z9 := frozenAt hz 4
          (try simp only [World.cell?_drew, World.frozen?_drew] at z0 z1 z2 z3 z4 z5 z6 z7 z8 z9); go_simp; clear hz z0 z1 z2 z3 z4 z5 z6 z7 z8 z9; clear hH
          have T109 : Sep w ([valB _ cv, valB _ x, excB _ en] ++ baseC) _ := (Sep.setBox (cs := #[.string en, .int .i64 0, .int .i64 0, .string ⟨#[]⟩, .bool false]) (t := 35) (Sep.setBox (cs := #[.string en, .int .i64 0, .int .i64 0, .string ⟨#[]⟩, .bool false]) (t := 35) (Sep.setBox (cs := #[.string en, .int .i64 0, .int .i64 0, .string ⟨#[]⟩, .bool false]) (t := 35) (Sep.setBox (cs := #[.string en, .int .i64 0, .int .i64 0, .string ⟨#[]⟩, .bool false]) (t := 35) (Sep.setBox (cs := #[.string ⟨#[]⟩, .int .i64 0, .int .i64 0, .string ⟨#[]⟩, .bool false]) (t := 35) T108 2 rfl 0 (.string en)) 2 rfl 1 (.int .i64 0)) 2 rfl 2 (.int .i64 0)) 2 rfl 3 (.string ⟨#[]⟩)) 2 rfl 4 (.bool false)); (try simp only [size_drew, World.size_alloc] at T109)
          refine hK.out _ _ (KbaseC.out _ [_, _, _] T109) (fun hH => ?_); clear hK K
          refine wpAnyH_done (by kernel_rfl) ?_ _
          as_aux_lemma =>
           go_wp2_with fail
           go_meet
           exact ⟨[_, _, _], 2, 0, _, _, rfl, rfl, by decide, rfl, rfl, T109⟩
         ·
          go_simp
          have T110 : Sep w ([zeroB _, valB _ x, excB _ ⟨#[]⟩] ++ baseB) _ := Sep.alloc T105 (.cells #[.int .i64 0, .int .i64 0, .string ⟨#[]⟩] 31); (try simp only [size_drew, World.size_alloc] at T110); clear hH; refine hK.out _ _ (KbaseB.out _ [_, _, _] T110) (fun hH => ?_); clear hK K; refine readyT [5] ?_; refine consT (fun K hK => ?_) AllReadyH.nil; go_simp
          go_wp2_with (go_at_call 25; refine (KC.out _ [_, _, _] _ 1 rfl T110).mono ?_; rintro e w111 ⟨rfl, T111⟩); clear hH; refine hK.out _ _ (KbaseC.out _ [_, _, _] T111) (fun hH => ?_); clear hK K; refine takeT 6 hH (hy := .inl ⟨by rfl, by (intro w hSw; try obtain ⟨u0, u1, u2⟩ := hSw); (go_simp; try rfl)⟩) (h := ?_); simp only [Act.put, List.setIfInBounds_toArray, List.set_cons_zero, List.set_cons_succ]; refine takeT 7 hH (hy := .inl ⟨by rfl, by (intro w hSw; try obtain ⟨u0, u1, u2⟩ := hSw); (go_simp; try rfl)⟩) (h := ?_); simp only [Act.put, List.setIfInBounds_toArray, List.set_cons_zero, List.set_cons_succ]; refine takeT 8 hH (hy := .inl ⟨by rfl, by (intro w hSw; try obtain ⟨u0, u1, u2⟩ := hSw); (go_simp; try rfl)⟩) (h := ?_); simp only [Act.put, List.setIfInBounds_toArray, List.set_cons_zero, List.set_cons_succ]; refine readyT [11] ?_; refine consT (fun K hK => ?_) AllReadyH.nil
          have hz := T111.box 0 rfl; have z0 := cellAt hz 0 (v := .int .i64 0) rfl; have z1 := cellAt hz 1 (v := .int .i64 0) rfl; have z2 := cellAt hz 2 (v := .string ⟨#[]⟩) rfl; have z3 := frozenAt hz 0; have z4 := frozenAt hz 1; have z5 := frozenAt hz 2
          (try simp only [World.cell?_drew, World.frozen?_drew] at z0 z1 z2 z3 z4 z5); go_simp; clear hz z0 z1 z2 z3 z4 z5; clear hH
          have T112 : Sep w ([valB _ cv, valB _ x, excB _ ⟨#[]⟩] ++ baseC) _ := (Sep.setBox (cs := #[.int .i64 cv.kind, .int .i64 cv.n, .string ⟨#[]⟩]) (t := 31) (Sep.setBox (cs := #[.int .i64 cv.kind, .int .i64 0, .string ⟨#[]⟩]) (t := 31) (Sep.setBox (cs := #[.int .i64 0, .int .i64 0, .string ⟨#[]⟩]) (t := 31) T111 0 rfl 0 (.int .i64 cv.kind)) 0 rfl 1 (.int .i64 cv.n)) 0 rfl 2 (.string cv.s)); (try simp only [size_drew, World.size_alloc] at T112)
          refine hK.out _ _ (KbaseC.out _ [_, _, _] T112) (fun hH => ?_); clear hK K; refine readyT [12] ?_; refine consT (fun K hK => ?_) AllReadyH.nil
          have hz := T112.box 2 rfl; have z0 := cellAt hz 0 (v := .string ⟨#[]⟩) rfl; have z1 := cellAt hz 1 (v := .int .i64 0) rfl; have z2 := cellAt hz 2 (v := .int .i64 0) rfl; have z3 := cellAt hz 3 (v := .string ⟨#[]⟩) rfl; have z4 := cellAt hz 4 (v := .bool false) rfl; have z5 := frozenAt hz 0; have z6 := frozenAt hz 1; have z7 := frozenAt hz 2; have z8 := frozenAt hz 3; have z9 := frozenAt hz 4
          (try simp only [World.cell?_drew, World.frozen?_drew] at z0 z1 z2 z3 z4 z5 z6 z7 z8 z9); go_simp; clear hz z0 z1 z2 z3 z4 z5 z6 z7 z8 z9; clear hH
          have T113 : Sep w ([valB _ cv, valB _ x, excB _ en] ++ baseC) _ := (Sep.setBox (cs := #[.string en, .int .i64 0, .int .i64 0, .string ⟨#[]⟩, .bool false]) (t := 35) (Sep.setBox (cs := #[.string en, .int .i64 0, .int .i64 0, .string ⟨#[]⟩, .bool false]) (t := 35) (Sep.setBox (cs := #[.string en, .int .i64 0, .int .i64 0, .string ⟨#[]⟩, .bool false]) (t := 35) (Sep.setBox (cs := #[.string en, .int .i64 0, .int .i64 0, .string ⟨#[]⟩, .bool false]) (t := 35) (Sep.setBox (cs := #[.string ⟨#[]⟩, .int .i64 0, .int .i64 0, .string ⟨#[]⟩, .bool false]) (t := 35) T112 2 rfl 0 (.string en)) 2 rfl 1 (.int .i64 0)) 2 rfl 2 (.int .i64 0)) 2 rfl 3 (.string ⟨#[]⟩)) 2 rfl 4 (.bool false)); (try simp only [size_drew, World.size_alloc] at T113)
          refine hK.out _ _ (KbaseC.out _ [_, _, _] T113) (fun hH => ?_); clear hK K
          refine wpAnyH_done (by kernel_rfl) ?_ _
          as_aux_lemma =>
           go_wp2_with fail
           go_meet
           exact ⟨[_, _, _], 2, 0, _, _, rfl, rfl, by decide, rfl, rfl, T113⟩
        ·
         go_simp
         have T114 : Sep w ([zeroB _, excB _ ⟨#[]⟩] ++ baseB) _ := Sep.alloc T104 (.cells #[.int .i64 0, .int .i64 0, .string ⟨#[]⟩] 31); (try simp only [size_drew, World.size_alloc] at T114); clear hH; refine hK.out _ _ (KbaseB.out _ [_, _] T114) (fun hH => ?_); clear hK K; refine readyT [2] ?_; refine consT (fun K hK => ?_) AllReadyH.nil; go_simp
         have T115 : Sep w ([valB _ x, zeroB _, excB _ ⟨#[]⟩] ++ baseB) _ := Sep.alloc T114 (.cells #[.int .i64 x.kind, .int .i64 x.n, .string x.s] 31); (try simp only [size_drew, World.size_alloc] at T115); clear hH; refine hK.out _ _ (KbaseB.out _ [_, _, _] T115) (fun hH => ?_); clear hK K; refine readyT [5] ?_; refine consT (fun K hK => ?_) AllReadyH.nil; go_simp
         go_wp2_with (go_at_call 25; refine (KC.out _ [_, _, _] _ 0 rfl T115).mono ?_; rintro e w116 ⟨rfl, T116⟩); clear hH; refine hK.out _ _ (KbaseC.out _ [_, _, _] T116) (fun hH => ?_); clear hK K; refine takeT 6 hH (hy := .inl ⟨by rfl, by (intro w hSw; try obtain ⟨u0, u1, u2⟩ := hSw); (go_simp; try rfl)⟩) (h := ?_); simp only [Act.put, List.setIfInBounds_toArray, List.set_cons_zero, List.set_cons_succ]; refine takeT 7 hH (hy := .inl ⟨by rfl, by (intro w hSw; try obtain ⟨u0, u1, u2⟩ := hSw); (go_simp; try rfl)⟩) (h := ?_); simp only [Act.put, List.setIfInBounds_toArray, List.set_cons_zero, List.set_cons_succ]; refine takeT 8 hH (hy := .inl ⟨by rfl, by (intro w hSw; try obtain ⟨u0, u1, u2⟩ := hSw); (go_simp; try rfl)⟩) (h := ?_); simp only [Act.put, List.setIfInBounds_toArray, List.set_cons_zero, List.set_cons_succ]; refine readyT [11] ?_; refine consT (fun K hK => ?_) AllReadyH.nil
         have hz := T116.box 1 rfl; have z0 := cellAt hz 0 (v := .int .i64 0) rfl; have z1 := cellAt hz 1 (v := .int .i64 0) rfl; have z2 := cellAt hz 2 (v := .string ⟨#[]⟩) rfl; have z3 := frozenAt hz 0; have z4 := frozenAt hz 1; have z5 := frozenAt hz 2
         (try simp only [World.cell?_drew, World.frozen?_drew] at z0 z1 z2 z3 z4 z5); go_simp; clear hz z0 z1 z2 z3 z4 z5; clear hH
         have T117 : Sep w ([valB _ x, valB _ cv, excB _ ⟨#[]⟩] ++ baseC) _ := (Sep.setBox (cs := #[.int .i64 cv.kind, .int .i64 cv.n, .string ⟨#[]⟩]) (t := 31) (Sep.setBox (cs := #[.int .i64 cv.kind, .int .i64 0, .string ⟨#[]⟩]) (t := 31) (Sep.setBox (cs := #[.int .i64 0, .int .i64 0, .string ⟨#[]⟩]) (t := 31) T116 1 rfl 0 (.int .i64 cv.kind)) 1 rfl 1 (.int .i64 cv.n)) 1 rfl 2 (.string cv.s)); (try simp only [size_drew, World.size_alloc] at T117)
         refine hK.out _ _ (KbaseC.out _ [_, _, _] T117) (fun hH => ?_); clear hK K; refine readyT [12] ?_; refine consT (fun K hK => ?_) AllReadyH.nil
         have hz := T117.box 2 rfl; have z0 := cellAt hz 0 (v := .string ⟨#[]⟩) rfl; have z1 := cellAt hz 1 (v := .int .i64 0) rfl; have z2 := cellAt hz 2 (v := .int .i64 0) rfl; have z3 := cellAt hz 3 (v := .string ⟨#[]⟩) rfl; have z4 := cellAt hz 4 (v := .bool false) rfl; have z5 := frozenAt hz 0; have z6 := frozenAt hz 1; have z7 := frozenAt hz 2; have z8 := frozenAt hz 3; have z9 := frozenAt hz 4
         (try simp only [World.cell?_drew, World.frozen?_drew] at z0 z1 z2 z3 z4 z5 z6 z7 z8 z9); go_simp; clear hz z0 z1 z2 z3 z4 z5 z6 z7 z8 z9; clear hH
         have T118 : Sep w ([valB _ x, valB _ cv, excB _ en] ++ baseC) _ := (Sep.setBox (cs := #[.string en, .int .i64 0, .int .i64 0, .string ⟨#[]⟩, .bool false]) (t := 35) (Sep.setBox (cs := #[.string en, .int .i64 0, .int .i64 0, .string ⟨#[]⟩, .bool false]) (t := 35) (Sep.setBox (cs := #[.string en, .int .i64 0, .int .i64 0, .string ⟨#[]⟩, .bool false]) (t := 35) (Sep.setBox (cs := #[.string en, .int .i64 0, .int .i64 0, .string ⟨#[]⟩, .bool false]) (t := 35) (Sep.setBox (cs := #[.string ⟨#[]⟩, .int .i64 0, .int .i64 0, .string ⟨#[]⟩, .bool false]) (t := 35) T117 2 rfl 0 (.string en)) 2 rfl 1 (.int .i64 0)) 2 rfl 2 (.int .i64 0)) 2 rfl 3 (.string ⟨#[]⟩)) 2 rfl 4 (.bool false)); (try simp only [size_drew, World.size_alloc] at T118)
         refine hK.out _ _ (KbaseC.out _ [_, _, _] T118) (fun hH => ?_); clear hK K
         refine wpAnyH_done (by kernel_rfl) ?_ _
         as_aux_lemma =>
          go_wp2_with fail
          go_meet
          exact ⟨[_, _, _], 2, 1, _, _, rfl, rfl, by decide, rfl, rfl, T118⟩
      ·
       go_simp
       have T119 : Sep w ([zeroB _] ++ baseA) _ := Sep.alloc T0 (.cells #[.int .i64 0, .int .i64 0, .string ⟨#[]⟩] 31); (try simp only [size_drew, World.size_alloc] at T119); clear hH; refine hK.out _ _ (KbaseA.out _ [_] T119) (fun hH => ?_); clear hK K; refine readyT [2, 4, 10] ?_; refine consT (fun K hK => ?_) (consT (fun K hK => ?_) (consT (fun K hK => ?_) AllReadyH.nil))
       ·
        go_simp
        have T120 : Sep w ([valB _ x, zeroB _] ++ baseA) _ := Sep.alloc T119 (.cells #[.int .i64 x.kind, .int .i64 x.n, .string x.s] 31); (try simp only [size_drew, World.size_alloc] at T120); clear hH; refine hK.out _ _ (KbaseA.out _ [_, _] T120) (fun hH => ?_); clear hK K; refine readyT [4, 10] ?_; refine consT (fun K hK => ?_) (consT (fun K hK => ?_) AllReadyH.nil)
        ·
         go_simp
         go_wp2_with (go_at_call 24; refine (KM.out _ [_, _] T120).mono ?_; rintro e w121 ⟨rfl, T121⟩); clear hH; refine hK.out _ _ (KbaseB.out _ [_, _] T121) (fun hH => ?_); clear hK K; refine readyT [5, 10] ?_; refine consT (fun K hK => ?_) (consT (fun K hK => ?_) AllReadyH.nil)
         ·
          go_simp
          go_wp2_with (go_at_call 25; refine (KC.out _ [_, _] _ 0 rfl T121).mono ?_; rintro e w122 ⟨rfl, T122⟩); clear hH; refine hK.out _ _ (KbaseC.out _ [_, _] T122) (fun hH => ?_); clear hK K; refine takeT 6 hH (hy := .inl ⟨by rfl, by (intro w hSw; try obtain ⟨u0, u1, u2⟩ := hSw); (go_simp; try rfl)⟩) (h := ?_); simp only [Act.put, List.setIfInBounds_toArray, List.set_cons_zero, List.set_cons_succ]; refine takeT 7 hH (hy := .inl ⟨by rfl, by (intro w hSw; try obtain ⟨u0, u1, u2⟩ := hSw); (go_simp; try rfl)⟩) (h := ?_); simp only [Act.put, List.setIfInBounds_toArray, List.set_cons_zero, List.set_cons_succ]; refine takeT 8 hH (hy := .inl ⟨by rfl, by (intro w hSw; try obtain ⟨u0, u1, u2⟩ := hSw); (go_simp; try rfl)⟩) (h := ?_); simp only [Act.put, List.setIfInBounds_toArray, List.set_cons_zero, List.set_cons_succ]; refine readyT [10] ?_; refine consT (fun K hK => ?_) AllReadyH.nil; go_simp
          have T123 : Sep w ([excB _ ⟨#[]⟩, valB _ x, zeroB _] ++ baseC) _ := Sep.alloc T122 (.cells #[.string ⟨#[]⟩, .int .i64 0, .int .i64 0, .string ⟨#[]⟩, .bool false] 35); (try simp only [size_drew, World.size_alloc] at T123); clear hH; refine hK.out _ _ (KbaseC.out _ [_, _, _] T123) (fun hH => ?_); clear hK K; refine readyT [11] ?_; refine consT (fun K hK => ?_) AllReadyH.nil
          have hz := T123.box 2 rfl; have z0 := cellAt hz 0 (v := .int .i64 0) rfl; have z1 := cellAt hz 1 (v := .int .i64 0) rfl; have z2 := cellAt hz 2 (v := .string ⟨#[]⟩) rfl; have z3 := frozenAt hz 0; have z4 := frozenAt hz 1; have z5 := frozenAt hz 2
          (try simp only [World.cell?_drew, World.frozen?_drew] at z0 z1 z2 z3 z4 z5); go_simp; clear hz z0 z1 z2 z3 z4 z5; clear hH
          have T124 : Sep w ([excB _ ⟨#[]⟩, valB _ x, valB _ cv] ++ baseC) _ := (Sep.setBox (cs := #[.int .i64 cv.kind, .int .i64 cv.n, .string ⟨#[]⟩]) (t := 31) (Sep.setBox (cs := #[.int .i64 cv.kind, .int .i64 0, .string ⟨#[]⟩]) (t := 31) (Sep.setBox (cs := #[.int .i64 0, .int .i64 0, .string ⟨#[]⟩]) (t := 31) T123 2 rfl 0 (.int .i64 cv.kind)) 2 rfl 1 (.int .i64 cv.n)) 2 rfl 2 (.string cv.s)); (try simp only [size_drew, World.size_alloc] at T124)
          refine hK.out _ _ (KbaseC.out _ [_, _, _] T124) (fun hH => ?_); clear hK K; refine readyT [12] ?_; refine consT (fun K hK => ?_) AllReadyH.nil
          have hz := T124.box 0 rfl; have z0 := cellAt hz 0 (v := .string ⟨#[]⟩) rfl; have z1 := cellAt hz 1 (v := .int .i64 0) rfl; have z2 := cellAt hz 2 (v := .int .i64 0) rfl; have z3 := cellAt hz 3 (v := .string ⟨#[]⟩) rfl; have z4 := cellAt hz 4 (v := .bool false) rfl; have z5 := frozenAt hz 0; have z6 := frozenAt hz 1; have z7 := frozenAt hz 2; have z8 := frozenAt hz 3; have z9 := frozenAt hz 4
          (try simp only [World.cell?_drew, World.frozen?_drew] at z0 z1 z2 z3 z4 z5 z6 z7 z8 z9); go_simp; clear hz z0 z1 z2 z3 z4 z5 z6 z7 z8 z9; clear hH
          have T125 : Sep w ([excB _ en, valB _ x, valB _ cv] ++ baseC) _ := (Sep.setBox (cs := #[.string en, .int .i64 0, .int .i64 0, .string ⟨#[]⟩, .bool false]) (t := 35) (Sep.setBox (cs := #[.string en, .int .i64 0, .int .i64 0, .string ⟨#[]⟩, .bool false]) (t := 35) (Sep.setBox (cs := #[.string en, .int .i64 0, .int .i64 0, .string ⟨#[]⟩, .bool false]) (t := 35) (Sep.setBox (cs := #[.string en, .int .i64 0, .int .i64 0, .string ⟨#[]⟩, .bool false]) (t := 35) (Sep.setBox (cs := #[.string ⟨#[]⟩, .int .i64 0, .int .i64 0, .string ⟨#[]⟩, .bool false]) (t := 35) T124 0 rfl 0 (.string en)) 0 rfl 1 (.int .i64 0)) 0 rfl 2 (.int .i64 0)) 0 rfl 3 (.string ⟨#[]⟩)) 0 rfl 4 (.bool false)); (try simp only [size_drew, World.size_alloc] at T125)
          refine hK.out _ _ (KbaseC.out _ [_, _, _] T125) (fun hH => ?_); clear hK K
          refine wpAnyH_done (by kernel_rfl) ?_ _
          as_aux_lemma =>
           go_wp2_with fail
           go_meet
           exact ⟨[_, _, _], 0, 2, _, _, rfl, rfl, by decide, rfl, rfl, T125⟩
         ·
          go_simp
          have T126 : Sep w ([excB _ ⟨#[]⟩, valB _ x, zeroB _] ++ baseB) _ := Sep.alloc T121 (.cells #[.string ⟨#[]⟩, .int .i64 0, .int .i64 0, .string ⟨#[]⟩, .bool false] 35); (try simp only [size_drew, World.size_alloc] at T126); clear hH; refine hK.out _ _ (KbaseB.out _ [_, _, _] T126) (fun hH => ?_); clear hK K; refine readyT [5] ?_; refine consT (fun K hK => ?_) AllReadyH.nil; go_simp
          go_wp2_with (go_at_call 25; refine (KC.out _ [_, _, _] _ 1 rfl T126).mono ?_; rintro e w127 ⟨rfl, T127⟩); clear hH; refine hK.out _ _ (KbaseC.out _ [_, _, _] T127) (fun hH => ?_); clear hK K; refine takeT 6 hH (hy := .inl ⟨by rfl, by (intro w hSw; try obtain ⟨u0, u1, u2⟩ := hSw); (go_simp; try rfl)⟩) (h := ?_); simp only [Act.put, List.setIfInBounds_toArray, List.set_cons_zero, List.set_cons_succ]; refine takeT 7 hH (hy := .inl ⟨by rfl, by (intro w hSw; try obtain ⟨u0, u1, u2⟩ := hSw); (go_simp; try rfl)⟩) (h := ?_); simp only [Act.put, List.setIfInBounds_toArray, List.set_cons_zero, List.set_cons_succ]; refine takeT 8 hH (hy := .inl ⟨by rfl, by (intro w hSw; try obtain ⟨u0, u1, u2⟩ := hSw); (go_simp; try rfl)⟩) (h := ?_); simp only [Act.put, List.setIfInBounds_toArray, List.set_cons_zero, List.set_cons_succ]; refine readyT [11] ?_; refine consT (fun K hK => ?_) AllReadyH.nil
          have hz := T127.box 2 rfl; have z0 := cellAt hz 0 (v := .int .i64 0) rfl; have z1 := cellAt hz 1 (v := .int .i64 0) rfl; have z2 := cellAt hz 2 (v := .string ⟨#[]⟩) rfl; have z3 := frozenAt hz 0; have z4 := frozenAt hz 1; have z5 := frozenAt hz 2
          (try simp only [World.cell?_drew, World.frozen?_drew] at z0 z1 z2 z3 z4 z5); go_simp; clear hz z0 z1 z2 z3 z4 z5; clear hH
          have T128 : Sep w ([excB _ ⟨#[]⟩, valB _ x, valB _ cv] ++ baseC) _ := (Sep.setBox (cs := #[.int .i64 cv.kind, .int .i64 cv.n, .string ⟨#[]⟩]) (t := 31) (Sep.setBox (cs := #[.int .i64 cv.kind, .int .i64 0, .string ⟨#[]⟩]) (t := 31) (Sep.setBox (cs := #[.int .i64 0, .int .i64 0, .string ⟨#[]⟩]) (t := 31) T127 2 rfl 0 (.int .i64 cv.kind)) 2 rfl 1 (.int .i64 cv.n)) 2 rfl 2 (.string cv.s)); (try simp only [size_drew, World.size_alloc] at T128)
          refine hK.out _ _ (KbaseC.out _ [_, _, _] T128) (fun hH => ?_); clear hK K; refine readyT [12] ?_; refine consT (fun K hK => ?_) AllReadyH.nil
          have hz := T128.box 0 rfl; have z0 := cellAt hz 0 (v := .string ⟨#[]⟩) rfl; have z1 := cellAt hz 1 (v := .int .i64 0) rfl; have z2 := cellAt hz 2 (v := .int .i64 0) rfl; have z3 := cellAt hz 3 (v := .string ⟨#[]⟩) rfl; have z4 := cellAt hz 4 (v := .bool false) rfl; have z5 := frozenAt hz 0; have z6 := frozenAt hz 1; have z7 := frozenAt hz 2; have z8 := frozenAt hz 3; have z9 := frozenAt hz 4
          (try simp only [World.cell?_drew, World.frozen?_drew] at z0 z1 z2 z3 z4 z5 z6 z7 z8 z9); go_simp; clear hz z0 z1 z2 z3 z4 z5 z6 z7 z8 z9; clear hH
          have T129 : Sep w ([excB _ en, valB _ x, valB _ cv] ++ baseC) _ := (Sep.setBox (cs := #[.string en, .int .i64 0, .int .i64 0, .string ⟨#[]⟩, .bool false]) (t := 35) (Sep.setBox (cs := #[.string en, .int .i64 0, .int .i64 0, .string ⟨#[]⟩, .bool false]) (t := 35) (Sep.setBox (cs := #[.string en, .int .i64 0, .int .i64 0, .string ⟨#[]⟩, .bool false]) (t := 35) (Sep.setBox (cs := #[.string en, .int .i64 0, .int .i64 0, .string ⟨#[]⟩, .bool false]) (t := 35) (Sep.setBox (cs := #[.string ⟨#[]⟩, .int .i64 0, .int .i64 0, .string ⟨#[]⟩, .bool false]) (t := 35) T128 0 rfl 0 (.string en)) 0 rfl 1 (.int .i64 0)) 0 rfl 2 (.int .i64 0)) 0 rfl 3 (.string ⟨#[]⟩)) 0 rfl 4 (.bool false)); (try simp only [size_drew, World.size_alloc] at T129)
          refine hK.out _ _ (KbaseC.out _ [_, _, _] T129) (fun hH => ?_); clear hK K
          refine wpAnyH_done (by kernel_rfl) ?_ _
          as_aux_lemma =>
           go_wp2_with fail
           go_meet
           exact ⟨[_, _, _], 0, 2, _, _, rfl, rfl, by decide, rfl, rfl, T129⟩
        ·
         go_simp
         have T130 : Sep w ([excB _ ⟨#[]⟩, valB _ x, zeroB _] ++ baseA) _ := Sep.alloc T120 (.cells #[.string ⟨#[]⟩, .int .i64 0, .int .i64 0, .string ⟨#[]⟩, .bool false] 35); (try simp only [size_drew, World.size_alloc] at T130); clear hH; refine hK.out _ _ (KbaseA.out _ [_, _, _] T130) (fun hH => ?_); clear hK K; refine readyT [4] ?_; refine consT (fun K hK => ?_) AllReadyH.nil; go_simp
         go_wp2_with (go_at_call 24; refine (KM.out _ [_, _, _] T130).mono ?_; rintro e w131 ⟨rfl, T131⟩); clear hH; refine hK.out _ _ (KbaseB.out _ [_, _, _] T131) (fun hH => ?_); clear hK K; refine readyT [5] ?_; refine consT (fun K hK => ?_) AllReadyH.nil; go_simp
         go_wp2_with (go_at_call 25; refine (KC.out _ [_, _, _] _ 1 rfl T131).mono ?_; rintro e w132 ⟨rfl, T132⟩); clear hH; refine hK.out _ _ (KbaseC.out _ [_, _, _] T132) (fun hH => ?_); clear hK K; refine takeT 6 hH (hy := .inl ⟨by rfl, by (intro w hSw; try obtain ⟨u0, u1, u2⟩ := hSw); (go_simp; try rfl)⟩) (h := ?_); simp only [Act.put, List.setIfInBounds_toArray, List.set_cons_zero, List.set_cons_succ]; refine takeT 7 hH (hy := .inl ⟨by rfl, by (intro w hSw; try obtain ⟨u0, u1, u2⟩ := hSw); (go_simp; try rfl)⟩) (h := ?_); simp only [Act.put, List.setIfInBounds_toArray, List.set_cons_zero, List.set_cons_succ]; refine takeT 8 hH (hy := .inl ⟨by rfl, by (intro w hSw; try obtain ⟨u0, u1, u2⟩ := hSw); (go_simp; try rfl)⟩) (h := ?_); simp only [Act.put, List.setIfInBounds_toArray, List.set_cons_zero, List.set_cons_succ]; refine readyT [11] ?_; refine consT (fun K hK => ?_) AllReadyH.nil
         have hz := T132.box 2 rfl; have z0 := cellAt hz 0 (v := .int .i64 0) rfl; have z1 := cellAt hz 1 (v := .int .i64 0) rfl; have z2 := cellAt hz 2 (v := .string ⟨#[]⟩) rfl; have z3 := frozenAt hz 0; have z4 := frozenAt hz 1; have z5 := frozenAt hz 2
         (try simp only [World.cell?_drew, World.frozen?_drew] at z0 z1 z2 z3 z4 z5); go_simp; clear hz z0 z1 z2 z3 z4 z5; clear hH
         have T133 : Sep w ([excB _ ⟨#[]⟩, valB _ x, valB _ cv] ++ baseC) _ := (Sep.setBox (cs := #[.int .i64 cv.kind, .int .i64 cv.n, .string ⟨#[]⟩]) (t := 31) (Sep.setBox (cs := #[.int .i64 cv.kind, .int .i64 0, .string ⟨#[]⟩]) (t := 31) (Sep.setBox (cs := #[.int .i64 0, .int .i64 0, .string ⟨#[]⟩]) (t := 31) T132 2 rfl 0 (.int .i64 cv.kind)) 2 rfl 1 (.int .i64 cv.n)) 2 rfl 2 (.string cv.s)); (try simp only [size_drew, World.size_alloc] at T133)
         refine hK.out _ _ (KbaseC.out _ [_, _, _] T133) (fun hH => ?_); clear hK K; refine readyT [12] ?_; refine consT (fun K hK => ?_) AllReadyH.nil
         have hz := T133.box 0 rfl; have z0 := cellAt hz 0 (v := .string ⟨#[]⟩) rfl; have z1 := cellAt hz 1 (v := .int .i64 0) rfl; have z2 := cellAt hz 2 (v := .int .i64 0) rfl; have z3 := cellAt hz 3 (v := .string ⟨#[]⟩) rfl; have z4 := cellAt hz 4 (v := .bool false) rfl; have z5 := frozenAt hz 0; have z6 := frozenAt hz 1; have z7 := frozenAt hz 2; have z8 := frozenAt hz 3; have z9 := frozenAt hz 4
         (try simp only [World.cell?_drew, World.frozen?_drew] at z0 z1 z2 z3 z4 z5 z6 z7 z8 z9); go_simp; clear hz z0 z1 z2 z3 z4 z5 z6 z7 z8 z9; clear hH
         have T134 : Sep w ([excB _ en, valB _ x, valB _ cv] ++ baseC) _ := (Sep.setBox (cs := #[.string en, .int .i64 0, .int .i64 0, .string ⟨#[]⟩, .bool false]) (t := 35) (Sep.setBox (cs := #[.string en, .int .i64 0, .int .i64 0, .string ⟨#[]⟩, .bool false]) (t := 35) (Sep.setBox (cs := #[.string en, .int .i64 0, .int .i64 0, .string ⟨#[]⟩, .bool false]) (t := 35) (Sep.setBox (cs := #[.string en, .int .i64 0, .int .i64 0, .string ⟨#[]⟩, .bool false]) (t := 35) (Sep.setBox (cs := #[.string ⟨#[]⟩, .int .i64 0, .int .i64 0, .string ⟨#[]⟩, .bool false]) (t := 35) T133 0 rfl 0 (.string en)) 0 rfl 1 (.int .i64 0)) 0 rfl 2 (.int .i64 0)) 0 rfl 3 (.string ⟨#[]⟩)) 0 rfl 4 (.bool false)); (try simp only [size_drew, World.size_alloc] at T134)
         refine hK.out _ _ (KbaseC.out _ [_, _, _] T134) (fun hH => ?_); clear hK K
         refine wpAnyH_done (by kernel_rfl) ?_ _
         as_aux_lemma =>
          go_wp2_with fail
          go_meet
          exact ⟨[_, _, _], 0, 2, _, _, rfl, rfl, by decide, rfl, rfl, T134⟩
       ·
        go_simp
        go_wp2_with (go_at_call 24; refine (KM.out _ [_] T119).mono ?_; rintro e w135 ⟨rfl, T135⟩); clear hH; refine hK.out _ _ (KbaseB.out _ [_] T135) (fun hH => ?_); clear hK K; refine readyT [2, 10] ?_; refine consT (fun K hK => ?_) (consT (fun K hK => ?_) AllReadyH.nil)
        ·
         go_simp
         have T136 : Sep w ([valB _ x, zeroB _] ++ baseB) _ := Sep.alloc T135 (.cells #[.int .i64 x.kind, .int .i64 x.n, .string x.s] 31); (try simp only [size_drew, World.size_alloc] at T136); clear hH; refine hK.out _ _ (KbaseB.out _ [_, _] T136) (fun hH => ?_); clear hK K; refine readyT [5, 10] ?_; refine consT (fun K hK => ?_) (consT (fun K hK => ?_) AllReadyH.nil)
         ·
          go_simp
          go_wp2_with (go_at_call 25; refine (KC.out _ [_, _] _ 0 rfl T136).mono ?_; rintro e w137 ⟨rfl, T137⟩); clear hH; refine hK.out _ _ (KbaseC.out _ [_, _] T137) (fun hH => ?_); clear hK K; refine takeT 6 hH (hy := .inl ⟨by rfl, by (intro w hSw; try obtain ⟨u0, u1, u2⟩ := hSw); (go_simp; try rfl)⟩) (h := ?_); simp only [Act.put, List.setIfInBounds_toArray, List.set_cons_zero, List.set_cons_succ]; refine takeT 7 hH (hy := .inl ⟨by rfl, by (intro w hSw; try obtain ⟨u0, u1, u2⟩ := hSw); (go_simp; try rfl)⟩) (h := ?_); simp only [Act.put, List.setIfInBounds_toArray, List.set_cons_zero, List.set_cons_succ]; refine takeT 8 hH (hy := .inl ⟨by rfl, by (intro w hSw; try obtain ⟨u0, u1, u2⟩ := hSw); (go_simp; try rfl)⟩) (h := ?_); simp only [Act.put, List.setIfInBounds_toArray, List.set_cons_zero, List.set_cons_succ]; refine readyT [10] ?_; refine consT (fun K hK => ?_) AllReadyH.nil; go_simp
          have T138 : Sep w ([excB _ ⟨#[]⟩, valB _ x, zeroB _] ++ baseC) _ := Sep.alloc T137 (.cells #[.string ⟨#[]⟩, .int .i64 0, .int .i64 0, .string ⟨#[]⟩, .bool false] 35); (try simp only [size_drew, World.size_alloc] at T138); clear hH; refine hK.out _ _ (KbaseC.out _ [_, _, _] T138) (fun hH => ?_); clear hK K; refine readyT [11] ?_; refine consT (fun K hK => ?_) AllReadyH.nil
          have hz := T138.box 2 rfl; have z0 := cellAt hz 0 (v := .int .i64 0) rfl; have z1 := cellAt hz 1 (v := .int .i64 0) rfl; have z2 := cellAt hz 2 (v := .string ⟨#[]⟩) rfl; have z3 := frozenAt hz 0; have z4 := frozenAt hz 1; have z5 := frozenAt hz 2
          (try simp only [World.cell?_drew, World.frozen?_drew] at z0 z1 z2 z3 z4 z5); go_simp; clear hz z0 z1 z2 z3 z4 z5; clear hH
          have T139 : Sep w ([excB _ ⟨#[]⟩, valB _ x, valB _ cv] ++ baseC) _ := (Sep.setBox (cs := #[.int .i64 cv.kind, .int .i64 cv.n, .string ⟨#[]⟩]) (t := 31) (Sep.setBox (cs := #[.int .i64 cv.kind, .int .i64 0, .string ⟨#[]⟩]) (t := 31) (Sep.setBox (cs := #[.int .i64 0, .int .i64 0, .string ⟨#[]⟩]) (t := 31) T138 2 rfl 0 (.int .i64 cv.kind)) 2 rfl 1 (.int .i64 cv.n)) 2 rfl 2 (.string cv.s)); (try simp only [size_drew, World.size_alloc] at T139)
          refine hK.out _ _ (KbaseC.out _ [_, _, _] T139) (fun hH => ?_); clear hK K; refine readyT [12] ?_; refine consT (fun K hK => ?_) AllReadyH.nil
          have hz := T139.box 0 rfl; have z0 := cellAt hz 0 (v := .string ⟨#[]⟩) rfl; have z1 := cellAt hz 1 (v := .int .i64 0) rfl; have z2 := cellAt hz 2 (v := .int .i64 0) rfl; have z3 := cellAt hz 3 (v := .string ⟨#[]⟩) rfl; have z4 := cellAt hz 4 (v := .bool false) rfl; have z5 := frozenAt hz 0; have z6 := frozenAt hz 1; have z7 := frozenAt hz 2; have z8 := frozenAt hz 3; have z9 := frozenAt hz 4
          (try simp only [World.cell?_drew, World.frozen?_drew] at z0 z1 z2 z3 z4 z5 z6 z7 z8 z9); go_simp; clear hz z0 z1 z2 z3 z4 z5 z6 z7 z8 z9; clear hH
          have T140 : Sep w ([excB _ en, valB _ x, valB _ cv] ++ baseC) _ := (Sep.setBox (cs := #[.string en, .int .i64 0, .int .i64 0, .string ⟨#[]⟩, .bool false]) (t := 35) (Sep.setBox (cs := #[.string en, .int .i64 0, .int .i64 0, .string ⟨#[]⟩, .bool false]) (t := 35) (Sep.setBox (cs := #[.string en, .int .i64 0, .int .i64 0, .string ⟨#[]⟩, .bool false]) (t := 35) (Sep.setBox (cs := #[.string en, .int .i64 0, .int .i64 0, .string ⟨#[]⟩, .bool false]) (t := 35) (Sep.setBox (cs := #[.string ⟨#[]⟩, .int .i64 0, .int .i64 0, .string ⟨#[]⟩, .bool false]) (t := 35) T139 0 rfl 0 (.string en)) 0 rfl 1 (.int .i64 0)) 0 rfl 2 (.int .i64 0)) 0 rfl 3 (.string ⟨#[]⟩)) 0 rfl 4 (.bool false)); (try simp only [size_drew, World.size_alloc] at T140)
          refine hK.out _ _ (KbaseC.out _ [_, _, _] T140) (fun hH => ?_); clear hK K
          refine wpAnyH_done (by kernel_rfl) ?_ _
          as_aux_lemma =>
           go_wp2_with fail
           go_meet
           exact ⟨[_, _, _], 0, 2, _, _, rfl, rfl, by decide, rfl, rfl, T140⟩
         ·
          go_simp
          have T141 : Sep w ([excB _ ⟨#[]⟩, valB _ x, zeroB _] ++ baseB) _ := Sep.alloc T136 (.cells #[.string ⟨#[]⟩, .int .i64 0, .int .i64 0, .string ⟨#[]⟩, .bool false] 35); (try simp only [size_drew, World.size_alloc] at T141); clear hH; refine hK.out _ _ (KbaseB.out _ [_, _, _] T141) (fun hH => ?_); clear hK K; refine readyT [5] ?_; refine consT (fun K hK => ?_) AllReadyH.nil; go_simp
          go_wp2_with (go_at_call 25; refine (KC.out _ [_, _, _] _ 1 rfl T141).mono ?_; rintro e w142 ⟨rfl, T142⟩); clear hH; refine hK.out _ _ (KbaseC.out _ [_, _, _] T142) (fun hH => ?_); clear hK K; refine takeT 6 hH (hy := .inl ⟨by rfl, by (intro w hSw; try obtain ⟨u0, u1, u2⟩ := hSw); (go_simp; try rfl)⟩) (h := ?_); simp only [Act.put, List.setIfInBounds_toArray, List.set_cons_zero, List.set_cons_succ]; refine takeT 7 hH (hy := .inl ⟨by rfl, by (intro w hSw; try obtain ⟨u0, u1, u2⟩ := hSw); (go_simp; try rfl)⟩) (h := ?_); simp only [Act.put, List.setIfInBounds_toArray, List.set_cons_zero, List.set_cons_succ]; refine takeT 8 hH (hy := .inl ⟨by rfl, by (intro w hSw; try obtain ⟨u0, u1, u2⟩ := hSw); (go_simp; try rfl)⟩) (h := ?_); simp only [Act.put, List.setIfInBounds_toArray, List.set_cons_zero, List.set_cons_succ]; refine readyT [11] ?_; refine consT (fun K hK => ?_) AllReadyH.nil
          have hz := T142.box 2 rfl; have z0 := cellAt hz 0 (v := .int .i64 0) rfl; have z1 := cellAt hz 1 (v := .int .i64 0) rfl; have z2 := cellAt hz 2 (v := .string ⟨#[]⟩) rfl; have z3 := frozenAt hz 0; have z4 := frozenAt hz 1; have z5 := frozenAt hz 2
          (try simp only [World.cell?_drew, World.frozen?_drew] at z0 z1 z2 z3 z4 z5); go_simp; clear hz z0 z1 z2 z3 z4 z5; clear hH
          have T143 : Sep w ([excB _ ⟨#[]⟩, valB _ x, valB _ cv] ++ baseC) _ := (Sep.setBox (cs := #[.int .i64 cv.kind, .int .i64 cv.n, .string ⟨#[]⟩]) (t := 31) (Sep.setBox (cs := #[.int .i64 cv.kind, .int .i64 0, .string ⟨#[]⟩]) (t := 31) (Sep.setBox (cs := #[.int .i64 0, .int .i64 0, .string ⟨#[]⟩]) (t := 31) T142 2 rfl 0 (.int .i64 cv.kind)) 2 rfl 1 (.int .i64 cv.n)) 2 rfl 2 (.string cv.s)); (try simp only [size_drew, World.size_alloc] at T143)
          refine hK.out _ _ (KbaseC.out _ [_, _, _] T143) (fun hH => ?_); clear hK K; refine readyT [12] ?_; refine consT (fun K hK => ?_) AllReadyH.nil
          have hz := T143.box 0 rfl; have z0 := cellAt hz 0 (v := .string ⟨#[]⟩) rfl; have z1 := cellAt hz 1 (v := .int .i64 0) rfl; have z2 := cellAt hz 2 (v := .int .i64 0) rfl; have z3 := cellAt hz 3 (v := .string ⟨#[]⟩) rfl; have z4 := cellAt hz 4 (v := .bool false) rfl; have z5 := frozenAt hz 0; have z6 := frozenAt hz 1; have z7 := frozenAt hz 2; have z8 := frozenAt hz 3; have z9 := frozenAt hz 4
          (try simp only [World.cell?_drew, World.frozen?_drew] at z0 z1 z2 z3 z4 z5 z6 z7 z8 z9); go_simp; clear hz z0 z1 z2 z3 z4 z5 z6 z7 z8 z9; clear hH
          have T144 : Sep w ([excB _ en, valB _ x, valB _ cv] ++ baseC) _ := (Sep.setBox (cs := #[.string en, .int .i64 0, .int .i64 0, .string ⟨#[]⟩, .bool false]) (t := 35) (Sep.setBox (cs := #[.string en, .int .i64 0, .int .i64 0, .string ⟨#[]⟩, .bool false]) (t := 35) (Sep.setBox (cs := #[.string en, .int .i64 0, .int .i64 0, .string ⟨#[]⟩, .bool false]) (t := 35) (Sep.setBox (cs := #[.string en, .int .i64 0, .int .i64 0, .string ⟨#[]⟩, .bool false]) (t := 35) (Sep.setBox (cs := #[.string ⟨#[]⟩, .int .i64 0, .int .i64 0, .string ⟨#[]⟩, .bool false]) (t := 35) T143 0 rfl 0 (.string en)) 0 rfl 1 (.int .i64 0)) 0 rfl 2 (.int .i64 0)) 0 rfl 3 (.string ⟨#[]⟩)) 0 rfl 4 (.bool false)); (try simp only [size_drew, World.size_alloc] at T144)
          refine hK.out _ _ (KbaseC.out _ [_, _, _] T144) (fun hH => ?_); clear hK K
          refine wpAnyH_done (by kernel_rfl) ?_ _
          as_aux_lemma =>
           go_wp2_with fail
           go_meet
           exact ⟨[_, _, _], 0, 2, _, _, rfl, rfl, by decide, rfl, rfl, T144⟩
        ·
         go_simp
         have T145 : Sep w ([excB _ ⟨#[]⟩, zeroB _] ++ baseB) _ := Sep.alloc T135 (.cells #[.string ⟨#[]⟩, .int .i64 0, .int .i64 0, .string ⟨#[]⟩, .bool false] 35); (try simp only [size_drew, World.size_alloc] at T145); clear hH; refine hK.out _ _ (KbaseB.out _ [_, _] T145) (fun hH => ?_); clear hK K; refine readyT [2] ?_; refine consT (fun K hK => ?_) AllReadyH.nil; go_simp
         have T146 : Sep w ([valB _ x, excB _ ⟨#[]⟩, zeroB _] ++ baseB) _ := Sep.alloc T145 (.cells #[.int .i64 x.kind, .int .i64 x.n, .string x.s] 31); (try simp only [size_drew, World.size_alloc] at T146); clear hH; refine hK.out _ _ (KbaseB.out _ [_, _, _] T146) (fun hH => ?_); clear hK K; refine readyT [5] ?_; refine consT (fun K hK => ?_) AllReadyH.nil; go_simp
         go_wp2_with (go_at_call 25; refine (KC.out _ [_, _, _] _ 0 rfl T146).mono ?_; rintro e w147 ⟨rfl, T147⟩); clear hH; refine hK.out _ _ (KbaseC.out _ [_, _, _] T147) (fun hH => ?_); clear hK K; refine takeT 6 hH (hy := .inl ⟨by rfl, by (intro w hSw; try obtain ⟨u0, u1, u2⟩ := hSw); (go_simp; try rfl)⟩) (h := ?_); simp only [Act.put, List.setIfInBounds_toArray, List.set_cons_zero, List.set_cons_succ]; refine takeT 7 hH (hy := .inl ⟨by rfl, by (intro w hSw; try obtain ⟨u0, u1, u2⟩ := hSw); (go_simp; try rfl)⟩) (h := ?_); simp only [Act.put, List.setIfInBounds_toArray, List.set_cons_zero, List.set_cons_succ]; refine takeT 8 hH (hy := .inl ⟨by rfl, by (intro w hSw; try obtain ⟨u0, u1, u2⟩ := hSw); (go_simp; try rfl)⟩) (h := ?_); simp only [Act.put, List.setIfInBounds_toArray, List.set_cons_zero, List.set_cons_succ]; refine readyT [11] ?_; refine consT (fun K hK => ?_) AllReadyH.nil
         have hz := T147.box 2 rfl; have z0 := cellAt hz 0 (v := .int .i64 0) rfl; have z1 := cellAt hz 1 (v := .int .i64 0) rfl; have z2 := cellAt hz 2 (v := .string ⟨#[]⟩) rfl; have z3 := frozenAt hz 0; have z4 := frozenAt hz 1; have z5 := frozenAt hz 2
         (try simp only [World.cell?_drew, World.frozen?_drew] at z0 z1 z2 z3 z4 z5); go_simp; clear hz z0 z1 z2 z3 z4 z5; clear hH
         have T148 : Sep w ([valB _ x, excB _ ⟨#[]⟩, valB _ cv] ++ baseC) _ := (Sep.setBox (cs := #[.int .i64 cv.kind, .int .i64 cv.n, .string ⟨#[]⟩]) (t := 31) (Sep.setBox (cs := #[.int .i64 cv.kind, .int .i64 0, .string ⟨#[]⟩]) (t := 31) (Sep.setBox (cs := #[.int .i64 0, .int .i64 0, .string ⟨#[]⟩]) (t := 31) T147 2 rfl 0 (.int .i64 cv.kind)) 2 rfl 1 (.int .i64 cv.n)) 2 rfl 2 (.string cv.s)); (try simp only [size_drew, World.size_alloc] at T148)
         refine hK.out _ _ (KbaseC.out _ [_, _, _] T148) (fun hH => ?_); clear hK K; refine readyT [12] ?_; refine consT (fun K hK => ?_) AllReadyH.nil
         have hz := T148.box 1 rfl; have z0 := cellAt hz 0 (v := .string ⟨#[]⟩) rfl; have z1 := cellAt hz 1 (v := .int .i64 0) rfl; have z2 := cellAt hz 2 (v := .int .i64 0) rfl; have z3 := cellAt hz 3 (v := .string ⟨#[]⟩) rfl; have z4 := cellAt hz 4 (v := .bool false) rfl; have z5 := frozenAt hz 0; have z6 := frozenAt hz 1; have z7 := frozenAt hz 2; have z8 := frozenAt hz 3; have z9 := frozenAt hz 4
         (try simp only [World.cell?_drew, World.frozen?_drew] at z0 z1 z2 z3 z4 z5 z6 z7 z8 z9); go_simp; clear hz z0 z1 z2 z3 z4 z5 z6 z7 z8 z9; clear hH
         have T149 : Sep w ([valB _ x, excB _ en, valB _ cv] ++ baseC) _ := (Sep.setBox (cs := #[.string en, .int .i64 0, .int .i64 0, .string ⟨#[]⟩, .bool false]) (t := 35) (Sep.setBox (cs := #[.string en, .int .i64 0, .int .i64 0, .string ⟨#[]⟩, .bool false]) (t := 35) (Sep.setBox (cs := #[.string en, .int .i64 0, .int .i64 0, .string ⟨#[]⟩, .bool false]) (t := 35) (Sep.setBox (cs := #[.string en, .int .i64 0, .int .i64 0, .string ⟨#[]⟩, .bool false]) (t := 35) (Sep.setBox (cs := #[.string ⟨#[]⟩, .int .i64 0, .int .i64 0, .string ⟨#[]⟩, .bool false]) (t := 35) T148 1 rfl 0 (.string en)) 1 rfl 1 (.int .i64 0)) 1 rfl 2 (.int .i64 0)) 1 rfl 3 (.string ⟨#[]⟩)) 1 rfl 4 (.bool false)); (try simp only [size_drew, World.size_alloc] at T149)
         refine hK.out _ _ (KbaseC.out _ [_, _, _] T149) (fun hH => ?_); clear hK K
         refine wpAnyH_done (by kernel_rfl) ?_ _
         as_aux_lemma =>
          go_wp2_with fail
          go_meet
          exact ⟨[_, _, _], 1, 2, _, _, rfl, rfl, by decide, rfl, rfl, T149⟩
       ·
        go_simp
        have T150 : Sep w ([excB _ ⟨#[]⟩, zeroB _] ++ baseA) _ := Sep.alloc T119 (.cells #[.string ⟨#[]⟩, .int .i64 0, .int .i64 0, .string ⟨#[]⟩, .bool false] 35); (try simp only [size_drew, World.size_alloc] at T150); clear hH; refine hK.out _ _ (KbaseA.out _ [_, _] T150) (fun hH => ?_); clear hK K; refine readyT [2, 4] ?_; refine consT (fun K hK => ?_) (consT (fun K hK => ?_) AllReadyH.nil)
        ·
         go_simp
         have T151 : Sep w ([valB _ x, excB _ ⟨#[]⟩, zeroB _] ++ baseA) _ := Sep.alloc T150 (.cells #[.int .i64 x.kind, .int .i64 x.n, .string x.s] 31); (try simp only [size_drew, World.size_alloc] at T151); clear hH; refine hK.out _ _ (KbaseA.out _ [_, _, _] T151) (fun hH => ?_); clear hK K; refine readyT [4] ?_; refine consT (fun K hK => ?_) AllReadyH.nil; go_simp
         go_wp2_with (go_at_call 24; refine (KM.out _ [_, _, _] T151).mono ?_; rintro e w152 ⟨rfl, T152⟩); clear hH; refine hK.out _ _ (KbaseB.out _ [_, _, _] T152) (fun hH => ?_); clear hK K; refine readyT [5] ?_; refine consT (fun K hK => ?_) AllReadyH.nil; go_simp
         go_wp2_with (go_at_call 25; refine (KC.out _ [_, _, _] _ 0 rfl T152).mono ?_; rintro e w153 ⟨rfl, T153⟩); clear hH; refine hK.out _ _ (KbaseC.out _ [_, _, _] T153) (fun hH => ?_); clear hK K; refine takeT 6 hH (hy := .inl ⟨by rfl, by (intro w hSw; try obtain ⟨u0, u1, u2⟩ := hSw); (go_simp; try rfl)⟩) (h := ?_); simp only [Act.put, List.setIfInBounds_toArray, List.set_cons_zero, List.set_cons_succ]; refine takeT 7 hH (hy := .inl ⟨by rfl, by (intro w hSw; try obtain ⟨u0, u1, u2⟩ := hSw); (go_simp; try rfl)⟩) (h := ?_); simp only [Act.put, List.setIfInBounds_toArray, List.set_cons_zero, List.set_cons_succ]; refine takeT 8 hH (hy := .inl ⟨by rfl, by (intro w hSw; try obtain ⟨u0, u1, u2⟩ := hSw); (go_simp; try rfl)⟩) (h := ?_); simp only [Act.put, List.setIfInBounds_toArray, List.set_cons_zero, List.set_cons_succ]; refine readyT [11] ?_; refine consT (fun K hK => ?_) AllReadyH.nil
         have hz := T153.box 2 rfl; have z0 := cellAt hz 0 (v := .int .i64 0) rfl; have z1 := cellAt hz 1 (v := .int .i64 0) rfl; have z2 := cellAt hz 2 (v := .string ⟨#[]⟩) rfl; have z3 := frozenAt hz 0; have z4 := frozenAt hz 1; have z5 := frozenAt hz 2
         (try simp only [World.cell?_drew, World.frozen?_drew] at z0 z1 z2 z3 z4 z5); go_simp; clear hz z0 z1 z2 z3 z4 z5; clear hH
         have T154 : Sep w ([valB _ x, excB _ ⟨#[]⟩, valB _ cv] ++ baseC) _ := (Sep.setBox (cs := #[.int .i64 cv.kind, .int .i64 cv.n, .string ⟨#[]⟩]) (t := 31) (Sep.setBox (cs := #[.int .i64 cv.kind, .int .i64 0, .string ⟨#[]⟩]) (t := 31) (Sep.setBox (cs := #[.int .i64 0, .int .i64 0, .string ⟨#[]⟩]) (t := 31) T153 2 rfl 0 (.int .i64 cv.kind)) 2 rfl 1 (.int .i64 cv.n)) 2 rfl 2 (.string cv.s)); (try simp only [size_drew, World.size_alloc] at T154)
         refine hK.out _ _ (KbaseC.out _ [_, _, _] T154) (fun hH => ?_); clear hK K; refine readyT [12] ?_; refine consT (fun K hK => ?_) AllReadyH.nil
         have hz := T154.box 1 rfl; have z0 := cellAt hz 0 (v := .string ⟨#[]⟩) rfl; have z1 := cellAt hz 1 (v := .int .i64 0) rfl; have z2 := cellAt hz 2 (v := .int .i64 0) rfl; have z3 := cellAt hz 3 (v := .string ⟨#[]⟩) rfl; have z4 := cellAt hz 4 (v := .bool false) rfl; have z5 := frozenAt hz 0; have z6 := frozenAt hz 1; have z7 := frozenAt hz 2; have z8 := frozenAt hz 3; have z9 := frozenAt hz 4
         (try simp only [World.cell?_drew, World.frozen?_drew] at z0 z1 z2 z3 z4 z5 z6 z7 z8 z9); go_simp; clear hz z0 z1 z2 z3 z4 z5 z6 z7 z8 z9; clear hH
         have T155 : Sep w ([valB _ x, excB _ en, valB _ cv] ++ baseC) _ := (Sep.setBox (cs := #[.string en, .int .i64 0, .int .i64 0, .string ⟨#[]⟩, .bool false]) (t := 35) (Sep.setBox (cs := #[.string en, .int .i64 0, .int .i64 0, .string ⟨#[]⟩, .bool false]) (t := 35) (Sep.setBox (cs := #[.string en, .int .i64 0, .int .i64 0, .string ⟨#[]⟩, .bool false]) (t := 35) (Sep.setBox (cs := #[.string en, .int .i64 0, .int .i64 0, .string ⟨#[]⟩, .bool false]) (t := 35) (Sep.setBox (cs := #[.string ⟨#[]⟩, .int .i64 0, .int .i64 0, .string ⟨#[]⟩, .bool false]) (t := 35) T154 1 rfl 0 (.string en)) 1 rfl 1 (.int .i64 0)) 1 rfl 2 (.int .i64 0)) 1 rfl 3 (.string ⟨#[]⟩)) 1 rfl 4 (.bool false)); (try simp only [size_drew, World.size_alloc] at T155)
         refine hK.out _ _ (KbaseC.out _ [_, _, _] T155) (fun hH => ?_); clear hK K
         refine wpAnyH_done (by kernel_rfl) ?_ _
         as_aux_lemma =>
          go_wp2_with fail
          go_meet
          exact ⟨[_, _, _], 1, 2, _, _, rfl, rfl, by decide, rfl, rfl, T155⟩
        ·
         go_simp
         go_wp2_with (go_at_call 24; refine (KM.out _ [_, _] T150).mono ?_; rintro e w156 ⟨rfl, T156⟩); clear hH; refine hK.out _ _ (KbaseB.out _ [_, _] T156) (fun hH => ?_); clear hK K; refine readyT [2] ?_; refine consT (fun K hK => ?_) AllReadyH.nil; go_simp
         have T157 : Sep w ([valB _ x, excB _ ⟨#[]⟩, zeroB _] ++ baseB) _ := Sep.alloc T156 (.cells #[.int .i64 x.kind, .int .i64 x.n, .string x.s] 31); (try simp only [size_drew, World.size_alloc] at T157); clear hH; refine hK.out _ _ (KbaseB.out _ [_, _, _] T157) (fun hH => ?_); clear hK K; refine readyT [5] ?_; refine consT (fun K hK => ?_) AllReadyH.nil; go_simp
         go_wp2_with (go_at_call 25; refine (KC.out _ [_, _, _] _ 0 rfl T157).mono ?_; rintro e w158 ⟨rfl, T158⟩); clear hH; refine hK.out _ _ (KbaseC.out _ [_, _, _] T158) (fun hH => ?_); clear hK K; refine takeT 6 hH (hy := .inl ⟨by rfl, by (intro w hSw; try obtain ⟨u0, u1, u2⟩ := hSw); (go_simp; try rfl)⟩) (h := ?_); simp only [Act.put, List.setIfInBounds_toArray, List.set_cons_zero, List.set_cons_succ]; refine takeT 7 hH (hy := .inl ⟨by rfl, by (intro w hSw; try obtain ⟨u0, u1, u2⟩ := hSw); (go_simp; try rfl)⟩) (h := ?_); simp only [Act.put, List.setIfInBounds_toArray, List.set_cons_zero, List.set_cons_succ]; refine takeT 8 hH (hy := .inl ⟨by rfl, by (intro w hSw; try obtain ⟨u0, u1, u2⟩ := hSw); (go_simp; try rfl)⟩) (h := ?_); simp only [Act.put, List.setIfInBounds_toArray, List.set_cons_zero, List.set_cons_succ]; refine readyT [11] ?_; refine consT (fun K hK => ?_) AllReadyH.nil
         have hz := T158.box 2 rfl; have z0 := cellAt hz 0 (v := .int .i64 0) rfl; have z1 := cellAt hz 1 (v := .int .i64 0) rfl; have z2 := cellAt hz 2 (v := .string ⟨#[]⟩) rfl; have z3 := frozenAt hz 0; have z4 := frozenAt hz 1; have z5 := frozenAt hz 2
         (try simp only [World.cell?_drew, World.frozen?_drew] at z0 z1 z2 z3 z4 z5); go_simp; clear hz z0 z1 z2 z3 z4 z5; clear hH
         have T159 : Sep w ([valB _ x, excB _ ⟨#[]⟩, valB _ cv] ++ baseC) _ := (Sep.setBox (cs := #[.int .i64 cv.kind, .int .i64 cv.n, .string ⟨#[]⟩]) (t := 31) (Sep.setBox (cs := #[.int .i64 cv.kind, .int .i64 0, .string ⟨#[]⟩]) (t := 31) (Sep.setBox (cs := #[.int .i64 0, .int .i64 0, .string ⟨#[]⟩]) (t := 31) T158 2 rfl 0 (.int .i64 cv.kind)) 2 rfl 1 (.int .i64 cv.n)) 2 rfl 2 (.string cv.s)); (try simp only [size_drew, World.size_alloc] at T159)
         refine hK.out _ _ (KbaseC.out _ [_, _, _] T159) (fun hH => ?_); clear hK K; refine readyT [12] ?_; refine consT (fun K hK => ?_) AllReadyH.nil
         have hz := T159.box 1 rfl; have z0 := cellAt hz 0 (v := .string ⟨#[]⟩) rfl; have z1 := cellAt hz 1 (v := .int .i64 0) rfl; have z2 := cellAt hz 2 (v := .int .i64 0) rfl; have z3 := cellAt hz 3 (v := .string ⟨#[]⟩) rfl; have z4 := cellAt hz 4 (v := .bool false) rfl; have z5 := frozenAt hz 0; have z6 := frozenAt hz 1; have z7 := frozenAt hz 2; have z8 := frozenAt hz 3; have z9 := frozenAt hz 4
         (try simp only [World.cell?_drew, World.frozen?_drew] at z0 z1 z2 z3 z4 z5 z6 z7 z8 z9); go_simp; clear hz z0 z1 z2 z3 z4 z5 z6 z7 z8 z9; clear hH
         have T160 : Sep w ([valB _ x, excB _ en, valB _ cv] ++ baseC) _ := (Sep.setBox (cs := #[.string en, .int .i64 0, .int .i64 0, .string ⟨#[]⟩, .bool false]) (t := 35) (Sep.setBox (cs := #[.string en, .int .i64 0, .int .i64 0, .string ⟨#[]⟩, .bool false]) (t := 35) (Sep.setBox (cs := #[.string en, .int .i64 0, .int .i64 0, .string ⟨#[]⟩, .bool false]) (t := 35) (Sep.setBox (cs := #[.string en, .int .i64 0, .int .i64 0, .string ⟨#[]⟩, .bool false]) (t := 35) (Sep.setBox (cs := #[.string ⟨#[]⟩, .int .i64 0, .int .i64 0, .string ⟨#[]⟩, .bool false]) (t := 35) T159 1 rfl 0 (.string en)) 1 rfl 1 (.int .i64 0)) 1 rfl 2 (.int .i64 0)) 1 rfl 3 (.string ⟨#[]⟩)) 1 rfl 4 (.bool false)); (try simp only [size_drew, World.size_alloc] at T160)
         refine hK.out _ _ (KbaseC.out _ [_, _, _] T160) (fun hH => ?_); clear hK K
         refine wpAnyH_done (by kernel_rfl) ?_ _
         as_aux_lemma =>
          go_wp2_with fail
          go_meet
          exact ⟨[_, _, _], 1, 2, _, _, rfl, rfl, by decide, rfl, rfl, T160⟩
      ·
       go_simp
       have T161 : Sep w ([excB _ ⟨#[]⟩] ++ baseA) _ := Sep.alloc T0 (.cells #[.string ⟨#[]⟩, .int .i64 0, .int .i64 0, .string ⟨#[]⟩, .bool false] 35); (try simp only [size_drew, World.size_alloc] at T161); clear hH; refine hK.out _ _ (KbaseA.out _ [_] T161) (fun hH => ?_); clear hK K; refine readyT [2, 4, 9] ?_; refine consT (fun K hK => ?_) (consT (fun K hK => ?_) (consT (fun K hK => ?_) AllReadyH.nil))
       ·
        go_simp
        have T162 : Sep w ([valB _ x, excB _ ⟨#[]⟩] ++ baseA) _ := Sep.alloc T161 (.cells #[.int .i64 x.kind, .int .i64 x.n, .string x.s] 31); (try simp only [size_drew, World.size_alloc] at T162); clear hH; refine hK.out _ _ (KbaseA.out _ [_, _] T162) (fun hH => ?_); clear hK K; refine readyT [4, 9] ?_; refine consT (fun K hK => ?_) (consT (fun K hK => ?_) AllReadyH.nil)
        ·
         go_simp
         go_wp2_with (go_at_call 24; refine (KM.out _ [_, _] T162).mono ?_; rintro e w163 ⟨rfl, T163⟩); clear hH; refine hK.out _ _ (KbaseB.out _ [_, _] T163) (fun hH => ?_); clear hK K; refine readyT [5, 9] ?_; refine consT (fun K hK => ?_) (consT (fun K hK => ?_) AllReadyH.nil)
         ·
          go_simp
          go_wp2_with (go_at_call 25; refine (KC.out _ [_, _] _ 0 rfl T163).mono ?_; rintro e w164 ⟨rfl, T164⟩); clear hH; refine hK.out _ _ (KbaseC.out _ [_, _] T164) (fun hH => ?_); clear hK K; refine takeT 6 hH (hy := .inl ⟨by rfl, by (intro w hSw; try obtain ⟨u0, u1, u2⟩ := hSw); (go_simp; try rfl)⟩) (h := ?_); simp only [Act.put, List.setIfInBounds_toArray, List.set_cons_zero, List.set_cons_succ]; refine takeT 7 hH (hy := .inl ⟨by rfl, by (intro w hSw; try obtain ⟨u0, u1, u2⟩ := hSw); (go_simp; try rfl)⟩) (h := ?_); simp only [Act.put, List.setIfInBounds_toArray, List.set_cons_zero, List.set_cons_succ]; refine takeT 8 hH (hy := .inl ⟨by rfl, by (intro w hSw; try obtain ⟨u0, u1, u2⟩ := hSw); (go_simp; try rfl)⟩) (h := ?_); simp only [Act.put, List.setIfInBounds_toArray, List.set_cons_zero, List.set_cons_succ]; refine readyT [9] ?_; refine consT (fun K hK => ?_) AllReadyH.nil; go_simp
          have T165 : Sep w ([zeroB _, valB _ x, excB _ ⟨#[]⟩] ++ baseC) _ := Sep.alloc T164 (.cells #[.int .i64 0, .int .i64 0, .string ⟨#[]⟩] 31); (try simp only [size_drew, World.size_alloc] at T165); clear hH; refine hK.out _ _ (KbaseC.out _ [_, _, _] T165) (fun hH => ?_); clear hK K; refine readyT [11] ?_; refine consT (fun K hK => ?_) AllReadyH.nil
          have hz := T165.box 0 rfl; have z0 := cellAt hz 0 (v := .int .i64 0) rfl; have z1 := cellAt hz 1 (v := .int .i64 0) rfl; have z2 := cellAt hz 2 (v := .string ⟨#[]⟩) rfl; have z3 := frozenAt hz 0; have z4 := frozenAt hz 1; have z5 := frozenAt hz 2
          (try simp only [World.cell?_drew, World.frozen?_drew] at z0 z1 z2 z3 z4 z5); go_simp; clear hz z0 z1 z2 z3 z4 z5; clear hH
          have T166 : Sep w ([valB _ cv, valB _ x, excB _ ⟨#[]⟩] ++ baseC) _ := (Sep.alloc T164 (.cells #[.int .i64 cv.kind, .int .i64 cv.n, .string cv.s] 31)); (try simp only [size_drew, World.size_alloc] at T166)
          refine hK.out _ _ (KbaseC.out _ [_, _, _] T166) (fun hH => ?_); clear hK K; refine readyT [12] ?_; refine consT (fun K hK => ?_) AllReadyH.nil
          have hz := T166.box 2 rfl; have z0 := cellAt hz 0 (v := .string ⟨#[]⟩) rfl; have z1 := cellAt hz 1 (v := .int .i64 0) rfl; have z2 := cellAt hz 2 (v := .int .i64 0) rfl; have z3 := cellAt hz 3 (v := .string ⟨#[]⟩) rfl; have z4 := cellAt hz 4 (v := .bool false) rfl; have z5 := frozenAt hz 0; have z6 := frozenAt hz 1; have z7 := frozenAt hz 2; have z8 := frozenAt hz 3; have z9 := frozenAt hz 4
          (try simp only [World.cell?_drew, World.frozen?_drew] at z0 z1 z2 z3 z4 z5 z6 z7 z8 z9); go_simp; clear hz z0 z1 z2 z3 z4 z5 z6 z7 z8 z9; clear hH
          have T167 : Sep w ([valB _ cv, valB _ x, excB _ en] ++ baseC) _ := (Sep.setBox (cs := #[.string en, .int .i64 0, .int .i64 0, .string ⟨#[]⟩, .bool false]) (t := 35) (Sep.setBox (cs := #[.string en, .int .i64 0, .int .i64 0, .string ⟨#[]⟩, .bool false]) (t := 35) (Sep.setBox (cs := #[.string en, .int .i64 0, .int .i64 0, .string ⟨#[]⟩, .bool false]) (t := 35) (Sep.setBox (cs := #[.string en, .int .i64 0, .int .i64 0, .string ⟨#[]⟩, .bool false]) (t := 35) (Sep.setBox (cs := #[.string ⟨#[]⟩, .int .i64 0, .int .i64 0, .string ⟨#[]⟩, .bool false]) (t := 35) T166 2 rfl 0 (.string en)) 2 rfl 1 (.int .i64 0)) 2 rfl 2 (.int .i64 0)) 2 rfl 3 (.string ⟨#[]⟩)) 2 rfl 4 (.bool false)); (try simp only [size_drew, World.size_alloc] at T167)
          refine hK.out _ _ (KbaseC.out _ [_, _, _] T167) (fun hH => ?_); clear hK K
          refine wpAnyH_done (by kernel_rfl) ?_ _
          as_aux_lemma =>
           go_wp2_with fail
           go_meet
           exact ⟨[_, _, _], 2, 0, _, _, rfl, rfl, by decide, rfl, rfl, T167⟩
         ·
          go_simp
          have T168 : Sep w ([zeroB _, valB _ x, excB _ ⟨#[]⟩] ++ baseB) _ := Sep.alloc T163 (.cells #[.int .i64 0, .int .i64 0, .string ⟨#[]⟩] 31); (try simp only [size_drew, World.size_alloc] at T168); clear hH; refine hK.out _ _ (KbaseB.out _ [_, _, _] T168) (fun hH => ?_); clear hK K; refine readyT [5] ?_; refine consT (fun K hK => ?_) AllReadyH.nil; go_simp
          go_wp2_with (go_at_call 25; refine (KC.out _ [_, _, _] _ 1 rfl T168).mono ?_; rintro e w169 ⟨rfl, T169⟩); clear hH; refine hK.out _ _ (KbaseC.out _ [_, _, _] T169) (fun hH => ?_); clear hK K; refine takeT 6 hH (hy := .inl ⟨by rfl, by (intro w hSw; try obtain ⟨u0, u1, u2⟩ := hSw); (go_simp; try rfl)⟩) (h := ?_); simp only [Act.put, List.setIfInBounds_toArray, List.set_cons_zero, List.set_cons_succ]; refine takeT 7 hH (hy := .inl ⟨by rfl, by (intro w hSw; try obtain ⟨u0, u1, u2⟩ := hSw); (go_simp; try rfl)⟩) (h := ?_); simp only [Act.put, List.setIfInBounds_toArray, List.set_cons_zero, List.set_cons_succ]; refine takeT 8 hH (hy := .inl ⟨by rfl, by (intro w hSw; try obtain ⟨u0, u1, u2⟩ := hSw); (go_simp; try rfl)⟩) (h := ?_); simp only [Act.put, List.setIfInBounds_toArray, List.set_cons_zero, List.set_cons_succ]; refine readyT [11] ?_; refine consT (fun K hK => ?_) AllReadyH.nil
          have hz := T169.box 0 rfl; have z0 := cellAt hz 0 (v := .int .i64 0) rfl; have z1 := cellAt hz 1 (v := .int .i64 0) rfl; have z2 := cellAt hz 2 (v := .string ⟨#[]⟩) rfl; have z3 := frozenAt hz 0; have z4 := frozenAt hz 1; have z5 := frozenAt hz 2
          (try simp only [World.cell?_drew, World.frozen?_drew] at z0 z1 z2 z3 z4 z5); go_simp; clear hz z0 z1 z2 z3 z4 z5; clear hH
          have T170 : Sep w ([valB _ cv, valB _ x, excB _ ⟨#[]⟩] ++ baseC) _ := (Sep.setBox (cs := #[.int .i64 cv.kind, .int .i64 cv.n, .string ⟨#[]⟩]) (t := 31) (Sep.setBox (cs := #[.int .i64 cv.kind, .int .i64 0, .string ⟨#[]⟩]) (t := 31) (Sep.setBox (cs := #[.int .i64 0, .int .i64 0, .string ⟨#[]⟩]) (t := 31) T169 0 rfl 0 (.int .i64 cv.kind)) 0 rfl 1 (.int .i64 cv.n)) 0 rfl 2 (.string cv.s)); (try simp only [size_drew, World.size_alloc] at T170)
          refine hK.out _ _ (KbaseC.out _ [_, _, _] T170) (fun hH => ?_); clear hK K; refine readyT [12] ?_; refine consT (fun K hK => ?_) AllReadyH.nil
          have hz := T170.box 2 rfl; have z0 := cellAt hz 0 (v := .string ⟨#[]⟩) rfl; have z1 := cellAt hz 1 (v := .int .i64 0) rfl; have z2 := cellAt hz 2 (v := .int .i64 0) rfl; have z3 := cellAt hz 3 (v := .string ⟨#[]⟩) rfl; have z4 := cellAt hz 4 (v := .bool false) rfl; have z5 := frozenAt hz 0; have z6 := frozenAt hz 1; have z7 := frozenAt hz 2; have z8 := frozenAt hz 3; have z9 := frozenAt hz 4
          (try simp only [World.cell?_drew, World.frozen?_drew] at z0 z1 z2 z3 z4 z5 z6 z7 z8 z9); go_simp; clear hz z0 z1 z2 z3 z4 z5 z6 z7 z8 z9; clear hH
          have T171 : Sep w ([valB _ cv, valB _ x, excB _ en] ++ baseC) _ := (Sep.setBox (cs := #[.string en, .int .i64 0, .int .i64 0, .string ⟨#[]⟩, .bool false]) (t := 35) (Sep.setBox (cs := #[.string en, .int .i64 0, .int .i64 0, .string ⟨#[]⟩, .bool false]) (t := 35) (Sep.setBox (cs := #[.string en, .int .i64 0, .int .i64 0, .string ⟨#[]⟩, .bool false]) (t := 35) (Sep.setBox (cs := #[.string en, .int .i64 0, .int .i64 0, .string ⟨#[]⟩, .bool false]) (t := 35) (Sep.setBox (cs := #[.string ⟨#[]⟩, .int .i64 0, .int .i64 0, .string ⟨#[]⟩, .bool false]) (t := 35) T170 2 rfl 0 (.string en)) 2 rfl 1 (.int .i64 0)) 2 rfl 2 (.int .i64 0)) 2 rfl 3 (.string ⟨#[]⟩)) 2 rfl 4 (.bool false)); (try simp only [size_drew, World.size_alloc] at T171)
          refine hK.out _ _ (KbaseC.out _ [_, _, _] T171) (fun hH => ?_); clear hK K
          refine wpAnyH_done (by kernel_rfl) ?_ _
          as_aux_lemma =>
           go_wp2_with fail
           go_meet
           exact ⟨[_, _, _], 2, 0, _, _, rfl, rfl, by decide, rfl, rfl, T171⟩
        ·
         go_simp
         have T172 : Sep w ([zeroB _, valB _ x, excB _ ⟨#[]⟩] ++ baseA) _ := Sep.alloc T162 (.cells #[.int .i64 0, .int .i64 0, .string ⟨#[]⟩] 31); (try simp only [size_drew, World.size_alloc] at T172); clear hH; refine hK.out _ _ (KbaseA.out _ [_, _, _] T172) (fun hH => ?_); clear hK K; refine readyT [4] ?_; refine consT (fun K hK => ?_) AllReadyH.nil; go_simp
         go_wp2_with (go_at_call 24; refine (KM.out _ [_, _, _] T172).mono ?_; rintro e w173 ⟨rfl, T173⟩); clear hH; refine hK.out _ _ (KbaseB.out _ [_, _, _] T173) (fun hH => ?_); clear hK K; refine readyT [5] ?_; refine consT (fun K hK => ?_) AllReadyH.nil; go_simp
         go_wp2_with (go_at_call 25; refine (KC.out _ [_, _, _] _ 1 rfl T173).mono ?_; rintro e w174 ⟨rfl, T174⟩); clear hH; refine hK.out _ _ (KbaseC.out _ [_, _, _] T174) (fun hH => ?_); clear hK K; refine takeT 6 hH (hy := .inl ⟨by rfl, by (intro w hSw; try obtain ⟨u0, u1, u2⟩ := hSw); (go_simp; try rfl)⟩) (h := ?_); simp only [Act.put, List.setIfInBounds_toArray, List.set_cons_zero, List.set_cons_succ]; refine takeT 7 hH (hy := .inl ⟨by rfl, by (intro w hSw; try obtain ⟨u0, u1, u2⟩ := hSw); (go_simp; try rfl)⟩) (h := ?_); simp only [Act.put, List.setIfInBounds_toArray, List.set_cons_zero, List.set_cons_succ]; refine takeT 8 hH (hy := .inl ⟨by rfl, by (intro w hSw; try obtain ⟨u0, u1, u2⟩ := hSw); (go_simp; try rfl)⟩) (h := ?_); simp only [Act.put, List.setIfInBounds_toArray, List.set_cons_zero, List.set_cons_succ]; refine readyT [11] ?_; refine consT (fun K hK => ?_) AllReadyH.nil
         have hz := T174.box 0 rfl; have z0 := cellAt hz 0 (v := .int .i64 0) rfl; have z1 := cellAt hz 1 (v := .int .i64 0) rfl; have z2 := cellAt hz 2 (v := .string ⟨#[]⟩) rfl; have z3 := frozenAt hz 0; have z4 := frozenAt hz 1; have z5 := frozenAt hz 2
         (try simp only [World.cell?_drew, World.frozen?_drew] at z0 z1 z2 z3 z4 z5); go_simp; clear hz z0 z1 z2 z3 z4 z5; clear hH
         have T175 : Sep w ([valB _ cv, valB _ x, excB _ ⟨#[]⟩] ++ baseC) _ := (Sep.setBox (cs := #[.int .i64 cv.kind, .int .i64 cv.n, .string ⟨#[]⟩]) (t := 31) (Sep.setBox (cs := #[.int .i64 cv.kind, .int .i64 0, .string ⟨#[]⟩]) (t := 31) (Sep.setBox (cs := #[.int .i64 0, .int .i64 0, .string ⟨#[]⟩]) (t := 31) T174 0 rfl 0 (.int .i64 cv.kind)) 0 rfl 1 (.int .i64 cv.n)) 0 rfl 2 (.string cv.s)); (try simp only [size_drew, World.size_alloc] at T175)
         refine hK.out _ _ (KbaseC.out _ [_, _, _] T175) (fun hH => ?_); clear hK K; refine readyT [12] ?_; refine consT (fun K hK => ?_) AllReadyH.nil
         have hz := T175.box 2 rfl; have z0 := cellAt hz 0 (v := .string ⟨#[]⟩) rfl; have z1 := cellAt hz 1 (v := .int .i64 0) rfl; have z2 := cellAt hz 2 (v := .int .i64 0) rfl; have z3 := cellAt hz 3 (v := .string ⟨#[]⟩) rfl; have z4 := cellAt hz 4 (v := .bool false) rfl; have z5 := frozenAt hz 0; have z6 := frozenAt hz 1; have z7 := frozenAt hz 2; have z8 := frozenAt hz 3; have z9 := frozenAt hz 4
         (try simp only [World.cell?_drew, World.frozen?_drew] at z0 z1 z2 z3 z4 z5 z6 z7 z8 z9); go_simp; clear hz z0 z1 z2 z3 z4 z5 z6 z7 z8 z9; clear hH
         have T176 : Sep w ([valB _ cv, valB _ x, excB _ en] ++ baseC) _ := (Sep.setBox (cs := #[.string en, .int .i64 0, .int .i64 0, .string ⟨#[]⟩, .bool false]) (t := 35) (Sep.setBox (cs := #[.string en, .int .i64 0, .int .i64 0, .string ⟨#[]⟩, .bool false]) (t := 35) (Sep.setBox (cs := #[.string en, .int .i64 0, .int .i64 0, .string ⟨#[]⟩, .bool false]) (t := 35) (Sep.setBox (cs := #[.string en, .int .i64 0, .int .i64 0, .string ⟨#[]⟩, .bool false]) (t := 35) (Sep.setBox (cs := #[.string ⟨#[]⟩, .int .i64 0, .int .i64 0, .string ⟨#[]⟩, .bool false]) (t := 35) T175 2 rfl 0 (.string en)) 2 rfl 1 (.int .i64 0)) 2 rfl 2 (.int .i64 0)) 2 rfl 3 (.string ⟨#[]⟩)) 2 rfl 4 (.bool false)); (try simp only [size_drew, World.size_alloc] at T176)
         refine hK.out _ _ (KbaseC.out _ [_, _, _] T176) (fun hH => ?_); clear hK K
         refine wpAnyH_done (by kernel_rfl) ?_ _
         as_aux_lemma =>
          go_wp2_with fail
          go_meet
          exact ⟨[_, _, _], 2, 0, _, _, rfl, rfl, by decide, rfl, rfl, T176⟩
       ·
        go_simp
        go_wp2_with (go_at_call 24; refine (KM.out _ [_] T161).mono ?_; rintro e w177 ⟨rfl, T177⟩); clear hH; refine hK.out _ _ (KbaseB.out _ [_] T177) (fun hH => ?_); clear hK K; refine readyT [2, 9] ?_; refine consT (fun K hK => ?_) (consT (fun K hK => ?_) AllReadyH.nil)
        ·
         go_simp
         have T178 : Sep w ([valB _ x, excB _ ⟨#[]⟩] ++ baseB) _ := Sep.alloc T177 (.cells #[.int .i64 x.kind, .int .i64 x.n, .string x.s] 31); (try simp only [size_drew, World.size_alloc] at T178); clear hH; refine hK.out _ _ (KbaseB.out _ [_, _] T178) (fun hH => ?_); clear hK K; refine readyT [5, 9] ?_; refine consT (fun K hK => ?_) (consT (fun K hK => ?_) AllReadyH.nil)
         ·
          go_simp
          go_wp2_with (go_at_call 25; refine (KC.out _ [_, _] _ 0 rfl T178).mono ?_; rintro e w179 ⟨rfl, T179⟩); clear hH; refine hK.out _ _ (KbaseC.out _ [_, _] T179) (fun hH => ?_); clear hK K; refine takeT 6 hH (hy := .inl ⟨by rfl, by (intro w hSw; try obtain ⟨u0, u1, u2⟩ := hSw); (go_simp; try rfl)⟩) (h := ?_); simp only [Act.put, List.setIfInBounds_toArray, List.set_cons_zero, List.set_cons_succ]; refine takeT 7 hH (hy := .inl ⟨by rfl, by (intro w hSw; try obtain ⟨u0, u1, u2⟩ := hSw); (go_simp; try rfl)⟩) (h := ?_); simp only [Act.put, List.setIfInBounds_toArray, List.set_cons_zero, List.set_cons_succ]; refine takeT 8 hH (hy := .inl ⟨by rfl, by (intro w hSw; try obtain ⟨u0, u1, u2⟩ := hSw); (go_simp; try rfl)⟩) (h := ?_); simp only [Act.put, List.setIfInBounds_toArray, List.set_cons_zero, List.set_cons_succ]; refine readyT [9] ?_; refine consT (fun K hK => ?_) AllReadyH.nil; go_simp
          have T180 : Sep w ([zeroB _, valB _ x, excB _ ⟨#[]⟩] ++ baseC) _ := Sep.alloc T179 (.cells #[.int .i64 0, .int .i64 0, .string ⟨#[]⟩] 31); (try simp only [size_drew, World.size_alloc] at T180); clear hH; refine hK.out _ _ (KbaseC.out _ [_, _, _] T180) (fun hH => ?_); clear hK K; refine readyT [11] ?_; refine consT (fun K hK => ?_) AllReadyH.nil
          have hz := T180.box 0 rfl; have z0 := cellAt hz 0 (v := .int .i64 0) rfl; have z1 := cellAt hz 1 (v := .int .i64 0) rfl; have z2 := cellAt hz 2 (v := .string ⟨#[]⟩) rfl; have z3 := frozenAt hz 0; have z4 := frozenAt hz 1; have z5 := frozenAt hz 2
          (try simp only [World.cell?_drew, World.frozen?_drew] at z0 z1 z2 z3 z4 z5); go_simp; clear hz z0 z1 z2 z3 z4 z5; clear hH
          have T181 : Sep w ([valB _ cv, valB _ x, excB _ ⟨#[]⟩] ++ baseC) _ := (Sep.alloc T179 (.cells #[.int .i64 cv.kind, .int .i64 cv.n, .string cv.s] 31)); (try simp only [size_drew, World.size_alloc] at T181)
          refine hK.out _ _ (KbaseC.out _ [_, _, _] T181) (fun hH => ?_); clear hK K; refine readyT [12] ?_; refine consT (fun K hK => ?_) AllReadyH.nil
          have hz := T181.box 2 rfl; have z0 := cellAt hz 0 (v := .string ⟨#[]⟩) rfl; have z1 := cellAt hz 1 (v := .int .i64 0) rfl; have z2 := cellAt hz 2 (v := .int .i64 0) rfl; have z3 := cellAt hz 3 (v := .string ⟨#[]⟩) rfl; have z4 := cellAt hz 4 (v := .bool false) rfl; have z5 := frozenAt hz 0; have z6 := frozenAt hz 1; have z7 := frozenAt hz 2; have z8 := frozenAt hz 3; have z9 := frozenAt hz 4
          (try simp only [World.cell?_drew, World.frozen?_drew] at z0 z1 z2 z3 z4 z5 z6 z7 z8 z9); go_simp; clear hz z0 z1 z2 z3 z4 z5 z6 z7 z8 z9; clear hH
          have T182 : Sep w ([valB _ cv, valB _ x, excB _ en] ++ baseC) _ := (Sep.setBox (cs := #[.string en, .int .i64 0, .int .i64 0, .string ⟨#[]⟩, .bool false]) (t := 35) (Sep.setBox (cs := #[.string en, .int .i64 0, .int .i64 0, .string ⟨#[]⟩, .bool false]) (t := 35) (Sep.setBox (cs := #[.string en, .int .i64 0, .int .i64 0, .string ⟨#[]⟩, .bool false]) (t := 35) (Sep.setBox (cs := #[.string en, .int .i64 0, .int .i64 0, .string ⟨#[]⟩, .bool false]) (t := 35) (Sep.setBox (cs := #[.string ⟨#[]⟩, .int .i64 0, .int .i64 0, .string ⟨#[]⟩, .bool false]) (t := 35) T181 2 rfl 0 (.string en)) 2 rfl 1 (.int .i64 0)) 2 rfl 2 (.int .i64 0)) 2 rfl 3 (.string ⟨#[]⟩)) 2 rfl 4 (.bool false)); (try simp only [size_drew, World.size_alloc] at T182)
          refine hK.out _ _ (KbaseC.out _ [_, _, _] T182) (fun hH => ?_); clear hK K
          refine wpAnyH_done (by kernel_rfl) ?_ _
          as_aux_lemma =>
           go_wp2_with fail
           go_meet
           exact ⟨[_, _, _], 2, 0, _, _, rfl, rfl, by decide, rfl, rfl, T182⟩
         ·
          go_simp
          have T183 : Sep w ([zeroB _, valB _ x, excB _ ⟨#[]⟩] ++ baseB) _ := Sep.alloc T178 (.cells #[.int .i64 0, .int .i64 0, .string ⟨#[]⟩] 31); (try simp only [size_drew, World.size_alloc] at T183); clear hH; refine hK.out _ _ (KbaseB.out _ [_, _, _] T183) (fun hH => ?_); clear hK K; refine readyT [5] ?_; refine consT (fun K hK => ?_) AllReadyH.nil; go_simp
          go_wp2_with (go_at_call 25; refine (KC.out _ [_, _, _] _ 1 rfl T183).mono ?_; rintro e w184 ⟨rfl, T184⟩); clear hH; refine hK.out _ _ (KbaseC.out _ [_, _, _] T184) (fun hH => ?_); clear hK K; refine takeT 6 hH (hy := .inl ⟨by rfl, by (intro w hSw; try obtain ⟨u0, u1, u2⟩ := hSw); (go_simp; try rfl)⟩) (h := ?_); simp only [Act.put, List.setIfInBounds_toArray, List.set_cons_zero, List.set_cons_succ]; refine takeT 7 hH (hy := .inl ⟨by rfl, by (intro w hSw; try obtain ⟨u0, u1, u2⟩ := hSw); (go_simp; try rfl)⟩) (h := ?_); simp only [Act.put, List.setIfInBounds_toArray, List.set_cons_zero, List.set_cons_succ]; refine takeT 8 hH (hy := .inl ⟨by rfl, by (intro w hSw; try obtain ⟨u0, u1, u2⟩ := hSw); (go_simp; try rfl)⟩) (h := ?_); simp only [Act.put, List.setIfInBounds_toArray, List.set_cons_zero, List.set_cons_succ]; refine readyT [11] ?_; refine consT (fun K hK => ?_) AllReadyH.nil
          have hz := T184.box 0 rfl; have z0 := cellAt hz 0 (v := .int .i64 0) rfl; have z1 := cellAt hz 1 (v := .int .i64 0) rfl; have z2 := cellAt hz 2 (v := .string ⟨#[]⟩) rfl; have z3 := frozenAt hz 0; have z4 := frozenAt hz 1; have z5 := frozenAt hz 2
          (try simp only [World.cell?_drew, World.frozen?_drew] at z0 z1 z2 z3 z4 z5); go_simp; clear hz z0 z1 z2 z3 z4 z5; clear hH
          have T185 : Sep w ([valB _ cv, valB _ x, excB _ ⟨#[]⟩] ++ baseC) _ := (Sep.setBox (cs := #[.int .i64 cv.kind, .int .i64 cv.n, .string ⟨#[]⟩]) (t := 31) (Sep.setBox (cs := #[.int .i64 cv.kind, .int .i64 0, .string ⟨#[]⟩]) (t := 31) (Sep.setBox (cs := #[.int .i64 0, .int .i64 0, .string ⟨#[]⟩]) (t := 31) T184 0 rfl 0 (.int .i64 cv.kind)) 0 rfl 1 (.int .i64 cv.n)) 0 rfl 2 (.string cv.s)); (try simp only [size_drew, World.size_alloc] at T185)
          refine hK.out _ _ (KbaseC.out _ [_, _, _] T185) (fun hH => ?_); clear hK K; refine readyT [12] ?_; refine consT (fun K hK => ?_) AllReadyH.nil
          have hz := T185.box 2 rfl; have z0 := cellAt hz 0 (v := .string ⟨#[]⟩) rfl; have z1 := cellAt hz 1 (v := .int .i64 0) rfl; have z2 := cellAt hz 2 (v := .int .i64 0) rfl; have z3 := cellAt hz 3 (v := .string ⟨#[]⟩) rfl; have z4 := cellAt hz 4 (v := .bool false) rfl; have z5 := frozenAt hz 0; have z6 := frozenAt hz 1; have z7 := frozenAt hz 2; have z8 := frozenAt hz 3; have z9 := frozenAt hz 4
          (try simp only [World.cell?_drew, World.frozen?_drew] at z0 z1 z2 z3 z4 z5 z6 z7 z8 z9); go_simp; clear hz z0 z1 z2 z3 z4 z5 z6 z7 z8 z9; clear hH
          have T186 : Sep w ([valB _ cv, valB _ x, excB _ en] ++ baseC) _ := (Sep.setBox (cs := #[.string en, .int .i64 0, .int .i64 0, .string ⟨#[]⟩, .bool false]) (t := 35) (Sep.setBox (cs := #[.string en, .int .i64 0, .int .i64 0, .string ⟨#[]⟩, .bool false]) (t := 35) (Sep.setBox (cs := #[.string en, .int .i64 0, .int .i64 0, .string ⟨#[]⟩, .bool false]) (t := 35) (Sep.setBox (cs := #[.string en, .int .i64 0, .int .i64 0, .string ⟨#[]⟩, .bool false]) (t := 35) (Sep.setBox (cs := #[.string ⟨#[]⟩, .int .i64 0, .int .i64 0, .string ⟨#[]⟩, .bool false]) (t := 35) T185 2 rfl 0 (.string en)) 2 rfl 1 (.int .i64 0)) 2 rfl 2 (.int .i64 0)) 2 rfl 3 (.string ⟨#[]⟩)) 2 rfl 4 (.bool false)); (try simp only [size_drew, World.size_alloc] at T186)
          refine hK.out _ _ (KbaseC.out _ [_, _, _] T186) (fun hH => ?_); clear hK K
          refine wpAnyH_done (by kernel_rfl) ?_ _
          as_aux_lemma =>
           go_wp2_with fail
           go_meet
           exact ⟨[_, _, _], 2, 0, _, _, rfl, rfl, by decide, rfl, rfl, T186⟩
        ·
         go_simp
         have T187 : Sep w ([zeroB _, excB _ ⟨#[]⟩] ++ baseB) _ := Sep.alloc T177 (.cells #[.int .i64 0, .int .i64 0, .string ⟨#[]⟩] 31); (try simp only [size_drew, World.size_alloc] at T187); clear hH; refine hK.out _ _ (KbaseB.out _ [_, _] T187) (fun hH => ?_); clear hK K; refine readyT [2] ?_; refine consT (fun K hK => ?_) AllReadyH.nil; go_simp
         have T188 : Sep w ([valB _ x, zeroB _, excB _ ⟨#[]⟩] ++ baseB) _ := Sep.alloc T187 (.cells #[.int .i64 x.kind, .int .i64 x.n, .string x.s] 31); (try simp only [size_drew, World.size_alloc] at T188); clear hH; refine hK.out _ _ (KbaseB.out _ [_, _, _] T188) (fun hH => ?_); clear hK K; refine readyT [5] ?_; refine consT (fun K hK => ?_) AllReadyH.nil; go_simp
         go_wp2_with (go_at_call 25; refine (KC.out _ [_, _, _] _ 0 rfl T188).mono ?_; rintro e w189 ⟨rfl, T189⟩); clear hH; refine hK.out _ _ (KbaseC.out _ [_, _, _] T189) (fun hH => ?_); clear hK K; refine takeT 6 hH (hy := .inl ⟨by rfl, by (intro w hSw; try obtain ⟨u0, u1, u2⟩ := hSw); (go_simp; try rfl)⟩) (h := ?_); simp only [Act.put, List.setIfInBounds_toArray, List.set_cons_zero, List.set_cons_succ]; refine takeT 7 hH (hy := .inl ⟨by rfl, by (intro w hSw; try obtain ⟨u0, u1, u2⟩ := hSw); (go_simp; try rfl)⟩) (h := ?_); simp only [Act.put, List.setIfInBounds_toArray, List.set_cons_zero, List.set_cons_succ]; refine takeT 8 hH (hy := .inl ⟨by rfl, by (intro w hSw; try obtain ⟨u0, u1, u2⟩ := hSw); (go_simp; try rfl)⟩) (h := ?_); simp only [Act.put, List.setIfInBounds_toArray, List.set_cons_zero, List.set_cons_succ]; refine readyT [11] ?_; refine consT (fun K hK => ?_) AllReadyH.nil
         have hz := T189.box 1 rfl; have z0 := cellAt hz 0 (v := .int .i64 0) rfl; have z1 := cellAt hz 1 (v := .int .i64 0) rfl; have z2 := cellAt hz 2 (v := .string ⟨#[]⟩) rfl; have z3 := frozenAt hz 0; have z4 := frozenAt hz 1; have z5 := frozenAt hz 2
         (try simp only [World.cell?_drew, World.frozen?_drew] at z0 z1 z2 z3 z4 z5); go_simp; clear hz z0 z1 z2 z3 z4 z5; clear hH
         have T190 : Sep w ([valB _ x, valB _ cv, excB _ ⟨#[]⟩] ++ baseC) _ := (Sep.setBox (cs := #[.int .i64 cv.kind, .int .i64 cv.n, .string ⟨#[]⟩]) (t := 31) (Sep.setBox (cs := #[.int .i64 cv.kind, .int .i64 0, .string ⟨#[]⟩]) (t := 31) (Sep.setBox (cs := #[.int .i64 0, .int .i64 0, .string ⟨#[]⟩]) (t := 31) T189 1 rfl 0 (.int .i64 cv.kind)) 1 rfl 1 (.int .i64 cv.n)) 1 rfl 2 (.string cv.s)); (try simp only [size_drew, World.size_alloc] at T190)
         refine hK.out _ _ (KbaseC.out _ [_, _, _] T190) (fun hH => ?_); clear hK K; refine readyT [12] ?_; refine consT (fun K hK => ?_) AllReadyH.nil
         have hz := T190.box 2 rfl; have z0 := cellAt hz 0 (v := .string ⟨#[]⟩) rfl; have z1 := cellAt hz 1 (v := .int .i64 0) rfl; have z2 := cellAt hz 2 (v := .int .i64 0) rfl; have z3 := cellAt hz 3 (v := .string ⟨#[]⟩) rfl; have z4 := cellAt hz 4 (v := .bool false) rfl; have z5 := frozenAt hz 0; have z6 := frozenAt hz 1; have z7 := frozenAt hz 2; have z8 := frozenAt hz 3; have z9 := frozenAt hz 4
         (try simp only [World.cell?_drew, World.frozen?_drew] at z0 z1 z2 z3 z4 z5 z6 z7 z8 z9); go_simp; clear hz z0 z1 z2 z3 z4 z5 z6 z7 z8 z9; clear hH
         have T191 : Sep w ([valB _ x, valB _ cv, excB _ en] ++ baseC) _ := (Sep.setBox (cs := #[.string en, .int .i64 0, .int .i64 0, .string ⟨#[]⟩, .bool false]) (t := 35) (Sep.setBox (cs := #[.string en, .int .i64 0, .int .i64 0, .string ⟨#[]⟩, .bool false]) (t := 35) (Sep.setBox (cs := #[.string en, .int .i64 0, .int .i64 0, .string ⟨#[]⟩, .bool false]) (t := 35) (Sep.setBox (cs := #[.string en, .int .i64 0, .int .i64 0, .string ⟨#[]⟩, .bool false]) (t := 35) (Sep.setBox (cs := #[.string ⟨#[]⟩, .int .i64 0, .int .i64 0, .string ⟨#[]⟩, .bool false]) (t := 35) T190 2 rfl 0 (.string en)) 2 rfl 1 (.int .i64 0)) 2 rfl 2 (.int .i64 0)) 2 rfl 3 (.string ⟨#[]⟩)) 2 rfl 4 (.bool false)); (try simp only [size_drew, World.size_alloc] at T191)
         refine hK.out _ _ (KbaseC.out _ [_, _, _] T191) (fun hH => ?_); clear hK K
         refine wpAnyH_done (by kernel_rfl) ?_ _
         as_aux_lemma =>
          go_wp2_with fail
          go_meet
          exact ⟨[_, _, _], 2, 1, _, _, rfl, rfl, by decide, rfl, rfl, T191⟩
       ·
        go_simp
        have T192 : Sep w ([zeroB _, excB _ ⟨#[]⟩] ++ baseA) _ := Sep.alloc T161 (.cells #[.int .i64 0, .int .i64 0, .string ⟨#[]⟩] 31); (try simp only [size_drew, World.size_alloc] at T192); clear hH; refine hK.out _ _ (KbaseA.out _ [_, _] T192) (fun hH => ?_); clear hK K; refine readyT [2, 4] ?_; refine consT (fun K hK => ?_) (consT (fun K hK => ?_) AllReadyH.nil)
        ·
         go_simp
         have T193 : Sep w ([valB _ x, zeroB _, excB _ ⟨#[]⟩] ++ baseA) _ := Sep.alloc T192 (.cells #[.int .i64 x.kind, .int .i64 x.n, .string x.s] 31); (try simp only [size_drew, World.size_alloc] at T193); clear hH; refine hK.out _ _ (KbaseA.out _ [_, _, _] T193) (fun hH => ?_); clear hK K; refine readyT [4] ?_; refine consT (fun K hK => ?_) AllReadyH.nil; go_simp
         go_wp2_with (go_at_call 24; refine (KM.out _ [_, _, _] T193).mono ?_; rintro e w194 ⟨rfl, T194⟩); clear hH; refine hK.out _ _ (KbaseB.out _ [_, _, _] T194) (fun hH => ?_); clear hK K; refine readyT [5] ?_; refine consT (fun K hK => ?_) AllReadyH.nil; go_simp
         go_wp2_with (go_at_call 25; refine (KC.out _ [_, _, _] _ 0 rfl T194).mono ?_; rintro e w195 ⟨rfl, T195⟩); clear hH; refine hK.out _ _ (KbaseC.out _ [_, _, _] T195) (fun hH => ?_); clear hK K; refine takeT 6 hH (hy := .inl ⟨by rfl, by (intro w hSw; try obtain ⟨u0, u1, u2⟩ := hSw); (go_simp; try rfl)⟩) (h := ?_); simp only [Act.put, List.setIfInBounds_toArray, List.set_cons_zero, List.set_cons_succ]; refine takeT 7 hH (hy := .inl ⟨by rfl, by (intro w hSw; try obtain ⟨u0, u1, u2⟩ := hSw); (go_simp; try rfl)⟩) (h := ?_); simp only [Act.put, List.setIfInBounds_toArray, List.set_cons_zero, List.set_cons_succ]; refine takeT 8 hH (hy := .inl ⟨by rfl, by (intro w hSw; try obtain ⟨u0, u1, u2⟩ := hSw); (go_simp; try rfl)⟩) (h := ?_); simp only [Act.put, List.setIfInBounds_toArray, List.set_cons_zero, List.set_cons_succ]; refine readyT [11] ?_; refine consT (fun K hK => ?_) AllReadyH.nil
         have hz := T195.box 1 rfl; have z0 := cellAt hz 0 (v := .int .i64 0) rfl; have z1 := cellAt hz 1 (v := .int .i64 0) rfl; have z2 := cellAt hz 2 (v := .string ⟨#[]⟩) rfl; have z3 := frozenAt hz 0; have z4 := frozenAt hz 1; have z5 := frozenAt hz 2
         (try simp only [World.cell?_drew, World.frozen?_drew] at z0 z1 z2 z3 z4 z5); go_simp; clear hz z0 z1 z2 z3 z4 z5; clear hH
         have T196 : Sep w ([valB _ x, valB _ cv, excB _ ⟨#[]⟩] ++ baseC) _ := (Sep.setBox (cs := #[.int .i64 cv.kind, .int .i64 cv.n, .string ⟨#[]⟩]) (t := 31) (Sep.setBox (cs := #[.int .i64 cv.kind, .int .i64 0, .string ⟨#[]⟩]) (t := 31) (Sep.setBox (cs := #[.int .i64 0, .int .i64 0, .string ⟨#[]⟩]) (t := 31) T195 1 rfl 0 (.int .i64 cv.kind)) 1 rfl 1 (.int .i64 cv.n)) 1 rfl 2 (.string cv.s)); (try simp only [size_drew, World.size_alloc] at T196)
         refine hK.out _ _ (KbaseC.out _ [_, _, _] T196) (fun hH => ?_); clear hK K; refine readyT [12] ?_; refine consT (fun K hK => ?_) AllReadyH.nil
         have hz := T196.box 2 rfl; have z0 := cellAt hz 0 (v := .string ⟨#[]⟩) rfl; have z1 := cellAt hz 1 (v := .int .i64 0) rfl; have z2 := cellAt hz 2 (v := .int .i64 0) rfl; have z3 := cellAt hz 3 (v := .string ⟨#[]⟩) rfl; have z4 := cellAt hz 4 (v := .bool false) rfl; have z5 := frozenAt hz 0; have z6 := frozenAt hz 1; have z7 := frozenAt hz 2; have z8 := frozenAt hz 3; have z9 := frozenAt hz 4
         (try simp only [World.cell?_drew, World.frozen?_drew] at z0 z1 z2 z3 z4 z5 z6 z7 z8 z9); go_simp; clear hz z0 z1 z2 z3 z4 z5 z6 z7 z8 z9; clear hH
         have T197 : Sep w ([valB _ x, valB _ cv, excB _ en] ++ baseC) _ := (Sep.setBox (cs := #[.string en, .int .i64 0, .int .i64 0, .string ⟨#[]⟩, .bool false]) (t := 35) (Sep.setBox (cs := #[.string en, .int .i64 0, .int .i64 0, .string ⟨#[]⟩, .bool false]) (t := 35) (Sep.setBox (cs := #[.string en, .int .i64 0, .int .i64 0, .string ⟨#[]⟩, .bool false]) (t := 35) (Sep.setBox (cs := #[.string en, .int .i64 0, .int .i64 0, .string ⟨#[]⟩, .bool false]) (t := 35) (Sep.setBox (cs := #[.string ⟨#[]⟩, .int .i64 0, .int .i64 0, .string ⟨#[]⟩, .bool false]) (t := 35) T196 2 rfl 0 (.string en)) 2 rfl 1 (.int .i64 0)) 2 rfl 2 (.int .i64 0)) 2 rfl 3 (.string ⟨#[]⟩)) 2 rfl 4 (.bool false)); (try simp only [size_drew, World.size_alloc] at T197)
         refine hK.out _ _ (KbaseC.out _ [_, _, _] T197) (fun hH => ?_); clear hK K
         refine wpAnyH_done (by kernel_rfl) ?_ _
         as_aux_lemma =>
          go_wp2_with fail
          go_meet
          exact ⟨[_, _, _], 2, 1, _, _, rfl, rfl, by decide, rfl, rfl, T197⟩
        ·
         go_simp
         go_wp2_with (go_at_call 24; refine (KM.out _ [_, _] T192).mono ?_; rintro e w198 ⟨rfl, T198⟩); clear hH; refine hK.out _ _ (KbaseB.out _ [_, _] T198) (fun hH => ?_); clear hK K; refine readyT [2] ?_; refine consT (fun K hK => ?_) AllReadyH.nil; go_simp
         have T199 : Sep w ([valB _ x, zeroB _, excB _ ⟨#[]⟩] ++ baseB) _ := Sep.alloc T198 (.cells #[.int .i64 x.kind, .int .i64 x.n, .string x.s] 31); (try simp only [size_drew, World.size_alloc] at T199); clear hH; refine hK.out _ _ (KbaseB.out _ [_, _, _] T199) (fun hH => ?_); clear hK K; refine readyT [5] ?_; refine consT (fun K hK => ?_) AllReadyH.nil; go_simp
         go_wp2_with (go_at_call 25; refine (KC.out _ [_, _, _] _ 0 rfl T199).mono ?_; rintro e w200 ⟨rfl, T200⟩); clear hH; refine hK.out _ _ (KbaseC.out _ [_, _, _] T200) (fun hH => ?_); clear hK K; refine takeT 6 hH (hy := .inl ⟨by rfl, by (intro w hSw; try obtain ⟨u0, u1, u2⟩ := hSw); (go_simp; try rfl)⟩) (h := ?_); simp only [Act.put, List.setIfInBounds_toArray, List.set_cons_zero, List.set_cons_succ]; refine takeT 7 hH (hy := .inl ⟨by rfl, by (intro w hSw; try obtain ⟨u0, u1, u2⟩ := hSw); (go_simp; try rfl)⟩) (h := ?_); simp only [Act.put, List.setIfInBounds_toArray, List.set_cons_zero, List.set_cons_succ]; refine takeT 8 hH (hy := .inl ⟨by rfl, by (intro w hSw; try obtain ⟨u0, u1, u2⟩ := hSw); (go_simp; try rfl)⟩) (h := ?_); simp only [Act.put, List.setIfInBounds_toArray, List.set_cons_zero, List.set_cons_succ]; refine readyT [11] ?_; refine consT (fun K hK => ?_) AllReadyH.nil
         have hz := T200.box 1 rfl; have z0 := cellAt hz 0 (v := .int .i64 0) rfl; have z1 := cellAt hz 1 (v := .int .i64 0) rfl; have z2 := cellAt hz 2 (v := .string ⟨#[]⟩) rfl; have z3 := frozenAt hz 0; have z4 := frozenAt hz 1; have z5 := frozenAt hz 2
         (try simp only [World.cell?_drew, World.frozen?_drew] at z0 z1 z2 z3 z4 z5); go_simp; clear hz z0 z1 z2 z3 z4 z5; clear hH
         have T201 : Sep w ([valB _ x, valB _ cv, excB _ ⟨#[]⟩] ++ baseC) _ := (Sep.setBox (cs := #[.int .i64 cv.kind, .int .i64 cv.n, .string ⟨#[]⟩]) (t := 31) (Sep.setBox (cs := #[.int .i64 cv.kind, .int .i64 0, .string ⟨#[]⟩]) (t := 31) (Sep.setBox (cs := #[.int .i64 0, .int .i64 0, .string ⟨#[]⟩]) (t := 31) T200 1 rfl 0 (.int .i64 cv.kind)) 1 rfl 1 (.int .i64 cv.n)) 1 rfl 2 (.string cv.s)); (try simp only [size_drew, World.size_alloc] at T201)
         refine hK.out _ _ (KbaseC.out _ [_, _, _] T201) (fun hH => ?_); clear hK K; refine readyT [12] ?_; refine consT (fun K hK => ?_) AllReadyH.nil
         have hz := T201.box 2 rfl; have z0 := cellAt hz 0 (v := .string ⟨#[]⟩) rfl; have z1 := cellAt hz 1 (v := .int .i64 0) rfl; have z2 := cellAt hz 2 (v := .int .i64 0) rfl; have z3 := cellAt hz 3 (v := .string ⟨#[]⟩) rfl; have z4 := cellAt hz 4 (v := .bool false) rfl; have z5 := frozenAt hz 0; have z6 := frozenAt hz 1; have z7 := frozenAt hz 2; have z8 := frozenAt hz 3; have z9 := frozenAt hz 4
         (try simp only [World.cell?_drew, World.frozen?_drew] at z0 z1 z2 z3 z4 z5 z6 z7 z8 z9); go_simp; clear hz z0 z1 z2 z3 z4 z5 z6 z7 z8 z9; clear hH
         have T202 : Sep w ([valB _ x, valB _ cv, excB _ en] ++ baseC) _ := (Sep.setBox (cs := #[.string en, .int .i64 0, .int .i64 0, .string ⟨#[]⟩, .bool false]) (t := 35) (Sep.setBox (cs := #[.string en, .int .i64 0, .int .i64 0, .string ⟨#[]⟩, .bool false]) (t := 35) (Sep.setBox (cs := #[.string en, .int .i64 0, .int .i64 0, .string ⟨#[]⟩, .bool false]) (t := 35) (Sep.setBox (cs := #[.string en, .int .i64 0, .int .i64 0, .string ⟨#[]⟩, .bool false]) (t := 35) (Sep.setBox (cs := #[.string ⟨#[]⟩, .int .i64 0, .int .i64 0, .string ⟨#[]⟩, .bool false]) (t := 35) T201 2 rfl 0 (.string en)) 2 rfl 1 (.int .i64 0)) 2 rfl 2 (.int .i64 0)) 2 rfl 3 (.string ⟨#[]⟩)) 2 rfl 4 (.bool false)); (try simp only [size_drew, World.size_alloc] at T202)
         refine hK.out _ _ (KbaseC.out _ [_, _, _] T202) (fun hH => ?_); clear hK K
         refine wpAnyH_done (by kernel_rfl) ?_ _
         as_aux_lemma =>
          go_wp2_with fail
          go_meet
          exact ⟨[_, _, _], 2, 1, _, _, rfl, rfl, by decide, rfl, rfl, T202⟩
    case rest =>
      obtain ⟨Q, i1, j1, x9, x10, rfl, rfl, hij, hi1, hj1, T⟩ := hcut
      have S := T.two i1 j1 hij hi1 hj1
      rw [HbaseC.out] at S; clear KM KC KbaseA KbaseB KbaseC HbaseA HbaseB HbaseC T hi1 hj1 hij
      replace S : Sep w (boxR x10 (.cells #[.string en, .int .i64 0, .int .i64 0, .string ⟨#[]⟩, .bool false] 35) :: boxR x9 (.cells #[.int .i64 cv.kind, .int .i64 cv.n, .string cv.s] 31) :: boxR x8 (.cells #[.int .i64 x.kind, .int .i64 x.n, .string x.s] 31) :: boxR x6 (.cells #[.int .i64 4, .int .i64 (L + 19), .string ⟨#[]⟩] 31) :: valsR (.slice oa l.length oc) l :: heapR h D2 :: boxR b (.cells #[.int .i64 a, .slice ba svs.length bc, .slice ia I.length ic] 46) :: []) _ := S
      rcases HOK.out.way with ⟨he, hcv, hocn, t, OF, hl2⟩ | ⟨he, hcv, hk6⟩
      · subst he
        have e9 : Value.agg #[.int .i64 cv.kind, .int .i64 cv.n, .string cv.s] = .agg #[.int .i64 4, .int .i64 cn, .string ⟨#[]⟩] := hcv
        simp only [Value.agg.injEq, Array.mk.injEq, List.cons.injEq, and_true, Value.int.injEq, true_and, Value.string.injEq] at e9
        obtain ⟨e91, e92, e93⟩ := e9
        rw [e91, e92, e93] at S
        have HOF := Lib.hid (And.intro OF hl2); clear hcv OF hl2 e91 e92 e93 HOK
        replace S : Sep w (boxR x10 (.cells #[.string ⟨#[]⟩, .int .i64 0, .int .i64 0, .string ⟨#[]⟩, .bool false] 35) :: boxR x9 (.cells #[.int .i64 4, .int .i64 cn, .string ⟨#[]⟩] 31) :: boxR x8 (.cells #[.int .i64 x.kind, .int .i64 x.n, .string x.s] 31) :: boxR x6 (.cells #[.int .i64 4, .int .i64 (L + 19), .string ⟨#[]⟩] 31) :: valsR (.slice oa l.length oc) l :: heapR h D2 :: boxR b (.cells #[.int .i64 a, .slice ba svs.length bc, .slice ia I.length ic] 46) :: []) _ := S; have z0 := cellAt (S.box (b := x10) 0 rfl) 0 (v := .string ⟨#[]⟩) rfl
        have d0 := cellAt (S.box (b := x9) 1 rfl) 0 (v := .int .i64 4) rfl
        have d1 := cellAt (S.box (b := x9) 1 rfl) 1 (v := .int .i64 cn) rfl
        have d2 := cellAt (S.box (b := x9) 1 rfl) 2 (v := .string ⟨#[]⟩) rfl
        have M := Lib.hid (kw_inst S 5 rfl HOF.out.1.fit (by omega) cn vn hocn HOF.out.1.cls (by have := HOF.out.2; have := HD.out.2.2.2; omega)); clear S
        go_wp2_with fail
        refine M.out.mono ?_
        rintro e w5 ⟨rfl, S⟩; clear M d0 d1 d2; clear z0
        replace S : Sep w (boxR x10 (.cells #[.string ⟨#[]⟩, .int .i64 0, .int .i64 0, .string ⟨#[]⟩, .bool false] 35) :: boxR x9 (.cells #[.int .i64 4, .int .i64 cn, .string ⟨#[]⟩] 31) :: boxR x8 (.cells #[.int .i64 x.kind, .int .i64 x.n, .string x.s] 31) :: boxR x6 (.cells #[.int .i64 4, .int .i64 (L + 19), .string ⟨#[]⟩] 31) :: valsR (.slice oa l.length oc) l :: heapR h (D2.add (instO (D2.name (V.ref cn hocn)) (HeapM.name_le _ _) (V.ref cn hocn))) :: boxR b (.cells #[.int .i64 a, .slice ba svs.length bc, .slice ia I.length ic] 46) :: []) _ := S
        obtain ⟨x11, hx11⟩ : ∃ gx_, (w5.heap.size) = gx_ := ⟨_, rfl⟩
        replace S := (S.alloc (.cells #[.int .i64 4, .int .i64 vn, .string ⟨#[]⟩] 31))
        simp only [World.size_alloc, hx11] at S
        replace S : Sep w (boxR x11 (.cells #[.int .i64 4, .int .i64 vn, .string ⟨#[]⟩] 31) :: boxR x10 (.cells #[.string ⟨#[]⟩, .int .i64 0, .int .i64 0, .string ⟨#[]⟩, .bool false] 35) :: boxR x9 (.cells #[.int .i64 4, .int .i64 cn, .string ⟨#[]⟩] 31) :: boxR x8 (.cells #[.int .i64 x.kind, .int .i64 x.n, .string x.s] 31) :: boxR x6 (.cells #[.int .i64 4, .int .i64 (L + 19), .string ⟨#[]⟩] 31) :: valsR (.slice oa l.length oc) l :: heapR h (D2.add (instO (D2.name (V.ref cn hocn)) (HeapM.name_le _ _) (V.ref cn hocn))) :: boxR b (.cells #[.int .i64 a, .slice ba svs.length bc, .slice ia I.length ic] 46) :: []) _ := S
        cases t with
        | false =>
          obtain ⟨baseA, hbaseA⟩ : ∃ base, base = boxR x11 (.cells #[.int .i64 4, .int .i64 vn, .string ⟨#[]⟩] 31) :: boxR x10 (.cells #[.string ⟨#[]⟩, .int .i64 0, .int .i64 0, .string ⟨#[]⟩, .bool false] 35) :: boxR x9 (.cells #[.int .i64 4, .int .i64 cn, .string ⟨#[]⟩] 31) :: boxR x8 (.cells #[.int .i64 x.kind, .int .i64 x.n, .string x.s] 31) :: boxR x6 (.cells #[.int .i64 4, .int .i64 (L + 19), .string ⟨#[]⟩] 31) :: valsR (.slice oa l.length oc) l :: heapR h (D2.add (instO (D2.name (V.ref cn hocn)) (HeapM.name_le _ _) (V.ref cn hocn))) :: boxR b (.cells #[.int .i64 a, .slice ba svs.length bc, .slice ia I.length ic] 46) :: [] := ⟨_, rfl⟩
          have HbaseA := Lib.hid hbaseA
          have KbaseA : Hid (∀ W (Q : List Res), Sep w (Q ++ baseA) W → W.cell? ⟨x6, 0, none⟩ = some (.int .i64 4) ∧ W.cell? ⟨x6, 1, none⟩ = some (.int .i64 (L + 19)) ∧ W.cell? ⟨x6, 2, none⟩ = some (.string ⟨#[]⟩) ∧ W.cell? ⟨x8, 0, none⟩ = some (.int .i64 x.kind) ∧ W.cell? ⟨x8, 1, none⟩ = some (.int .i64 x.n) ∧ W.cell? ⟨x8, 2, none⟩ = some (.string x.s) ∧ W.cell? ⟨x9, 0, none⟩ = some (.int .i64 4) ∧ W.cell? ⟨x9, 1, none⟩ = some (.int .i64 cn) ∧ W.cell? ⟨x9, 2, none⟩ = some (.string ⟨#[]⟩) ∧ W.cell? ⟨x11, 0, none⟩ = some (.int .i64 4) ∧ W.cell? ⟨x11, 1, none⟩ = some (.int .i64 vn) ∧ W.cell? ⟨x11, 2, none⟩ = some (.string ⟨#[]⟩)) := Lib.hid fun W Q T => by
            rw [hbaseA] at T
            have i0 := T.box (b := x6) (o := .cells #[.int .i64 4, .int .i64 (L + 19), .string ⟨#[]⟩] 31) (Q.length + 4) (by rw [List.getElem?_append_right (by omega), Nat.add_sub_cancel_left]; rfl)
            have i1 := T.box (b := x8) (o := .cells #[.int .i64 x.kind, .int .i64 x.n, .string x.s] 31) (Q.length + 3) (by rw [List.getElem?_append_right (by omega), Nat.add_sub_cancel_left]; rfl)
            have i2 := T.box (b := x9) (o := .cells #[.int .i64 4, .int .i64 cn, .string ⟨#[]⟩] 31) (Q.length + 2) (by rw [List.getElem?_append_right (by omega), Nat.add_sub_cancel_left]; rfl)
            have i3 := T.box (b := x11) (o := .cells #[.int .i64 4, .int .i64 vn, .string ⟨#[]⟩] 31) (Q.length + 0) (by rw [List.getElem?_append_right (by omega), Nat.add_sub_cancel_left]; rfl)
            exact ⟨cellAt i0 0 rfl, cellAt i0 1 rfl, cellAt i0 2 rfl, cellAt i1 0 rfl, cellAt i1 1 rfl, cellAt i1 2 rfl, cellAt i2 0 rfl, cellAt i2 1 rfl, cellAt i2 2 rfl, cellAt i3 0 rfl, cellAt i3 1 rfl, cellAt i3 2 rfl⟩
          have KCC : Hid (∀ W (Q : List Res), Sep w (Q ++ baseA) W → Calls Tryd.prog 28 #[.pointer (some ⟨h, 0, none⟩), .agg #[.int .i64 4, .int .i64 (L + 19), .string ⟨#[]⟩], .agg #[.int .i64 4, .int .i64 cn, .string ⟨#[]⟩]] W fun e W' => e = .returned (.bool false) ∧ Sep w (Q ++ baseA) W') := Lib.hid fun W Q T => by
            rw [HbaseA.out] at T ⊢
            exact kw_cls T (Q.length + 6) (by rw [List.getElem?_append_right (by omega), Nat.add_sub_cancel_left]; rfl) HOF.out.1.fit3.G (by omega) (V.ref (L + 19) hb19) (V.ref cn hocn) false HOF.out.1.isC
          have KCX : Hid (∀ W (Q : List Res), Sep w (Q ++ baseA) W → Calls Tryd.prog 28 #[.pointer (some ⟨h, 0, none⟩), .agg #[.int .i64 4, .int .i64 (L + 19), .string ⟨#[]⟩], .agg #[.int .i64 x.kind, .int .i64 x.n, .string x.s]] W fun e W' => e = .returned (.bool false) ∧ Sep w (Q ++ baseA) W') := Lib.hid fun W Q T => by
            rw [HbaseA.out] at T ⊢
            exact kw_cls T (Q.length + 6) (by rw [List.getElem?_append_right (by omega), Nat.add_sub_cancel_left]; rfl) HOF.out.1.fit3.G (by omega) (V.ref (L + 19) hb19) x false HOF.out.1.isX
          have KIV : Hid (∀ W (Q : List Res), Sep w (Q ++ baseA) W → Calls Tryd.prog 29 #[.pointer (some ⟨h, 0, none⟩), .agg #[.int .i64 4, .int .i64 (L + 19), .string ⟨#[]⟩], .agg #[.int .i64 4, .int .i64 vn, .string ⟨#[]⟩]] W fun e W' => e = .returned (.bool false) ∧ Sep w (Q ++ baseA) W') := Lib.hid fun W Q T => by
            rw [HbaseA.out] at T ⊢
            exact kw_is T (Q.length + 6) (by rw [List.getElem?_append_right (by omega), Nat.add_sub_cancel_left]; rfl) HOF.out.1.fit3.G (by omega) (V.ref (L + 19) hb19) (V.ref vn hov) false HOF.out.1.isV
          replace S : Sep w (baseA) (w5.alloc (.cells #[.int .i64 4, .int .i64 vn, .string ⟨#[]⟩] 31)) := by rw [hbaseA]; exact S
          replace S := Lib.hid S; clear hbaseA
          go_upto_region 11 with fail
          (try simp only [hx11])
          obtain ⟨Wd11, hW⟩ : ∃ gx_, ((w5.alloc (.cells #[.int .i64 4, .int .i64 vn, .string ⟨#[]⟩] 31))) = gx_ := ⟨_, rfl⟩
          rw [hW] at S ⊢; clear hW hx11
          go_cut [81] from 58 (fun s81 wx => s81 = .bool false ∧ Sep w baseA wx)
          case first =>
            have T0 : Sep w ([] ++ baseA) _ := S.out.drew; clear S
            as_aux_lemma =>
              refine wp_region_held_drew (S := fun W => W.cell? ⟨x6, 0, none⟩ = some (.int .i64 4) ∧ W.cell? ⟨x6, 1, none⟩ = some (.int .i64 (L + 19)) ∧ W.cell? ⟨x6, 2, none⟩ = some (.string ⟨#[]⟩) ∧ W.cell? ⟨x8, 0, none⟩ = some (.int .i64 x.kind) ∧ W.cell? ⟨x8, 1, none⟩ = some (.int .i64 x.n) ∧ W.cell? ⟨x8, 2, none⟩ = some (.string x.s) ∧ W.cell? ⟨x9, 0, none⟩ = some (.int .i64 4) ∧ W.cell? ⟨x9, 1, none⟩ = some (.int .i64 cn) ∧ W.cell? ⟨x9, 2, none⟩ = some (.string ⟨#[]⟩) ∧ W.cell? ⟨x11, 0, none⟩ = some (.int .i64 4) ∧ W.cell? ⟨x11, 1, none⟩ = some (.int .i64 vn) ∧ W.cell? ⟨x11, 2, none⟩ = some (.string ⟨#[]⟩)) (by kernel_rfl) (KbaseA.out _ [] T0) (fun hH => ?_); refine takeT 0 hH (hy := .inl ⟨by rfl, by (intro w hSw; try obtain ⟨u0, u1, u2, u3, u4, u5, u6, u7, u8, u9, u10, u11⟩ := hSw); (go_simp; try rfl)⟩) (h := ?_); simp only [Act.put, List.setIfInBounds_toArray, List.set_cons_zero, List.set_cons_succ]; refine takeT 1 hH (hy := .inl ⟨by rfl, by (intro w hSw; try obtain ⟨u0, u1, u2, u3, u4, u5, u6, u7, u8, u9, u10, u11⟩ := hSw); (go_simp; try rfl)⟩) (h := ?_); simp only [Act.put, List.setIfInBounds_toArray, List.set_cons_zero, List.set_cons_succ]; refine takeT 2 hH (hy := .inl ⟨by rfl, by (intro w hSw; try obtain ⟨u0, u1, u2, u3, u4, u5, u6, u7, u8, u9, u10, u11⟩ := hSw); (go_simp; try rfl)⟩) (h := ?_); simp only [Act.put, List.setIfInBounds_toArray, List.set_cons_zero, List.set_cons_succ]; refine takeT 4 hH (hy := .inl ⟨by rfl, by (intro w hSw; try obtain ⟨u0, u1, u2, u3, u4, u5, u6, u7, u8, u9, u10, u11⟩ := hSw); (go_simp; try rfl)⟩) (h := ?_); simp only [Act.put, List.setIfInBounds_toArray, List.set_cons_zero, List.set_cons_succ]; refine takeT 5 hH (hy := .inl ⟨by rfl, by (intro w hSw; try obtain ⟨u0, u1, u2, u3, u4, u5, u6, u7, u8, u9, u10, u11⟩ := hSw); (go_simp; try rfl)⟩) (h := ?_); simp only [Act.put, List.setIfInBounds_toArray, List.set_cons_zero, List.set_cons_succ]
              refine takeT 6 hH (hy := .inl ⟨by rfl, by (intro w hSw; try obtain ⟨u0, u1, u2, u3, u4, u5, u6, u7, u8, u9, u10, u11⟩ := hSw); (go_simp; try rfl)⟩) (h := ?_); simp only [Act.put, List.setIfInBounds_toArray, List.set_cons_zero, List.set_cons_succ]; refine readyT [3] ?_; refine consT (fun K hK => ?_) AllReadyH.nil; go_simp
              go_wp2_with (go_at_call 28; refine (KCC.out _ [] T0).mono ?_; rintro e w1 ⟨rfl, T1⟩); clear hH; refine hK.out _ _ (KbaseA.out _ [] T1) (fun hH => ?_); clear hK K; refine readyT [7] ?_; refine consT (fun K hK => ?_) AllReadyH.nil; go_simp
              go_wp2_with (go_at_call 28; refine (KCX.out _ [] T1).mono ?_; rintro e w2 ⟨rfl, T2⟩); clear hH; refine hK.out _ _ (KbaseA.out _ [] T2) (fun hH => ?_); clear hK K; refine takeT 8 hH (hy := .inl ⟨by rfl, by (intro w hSw; try obtain ⟨u0, u1, u2, u3, u4, u5, u6, u7, u8, u9, u10, u11⟩ := hSw); (go_simp; try rfl)⟩) (h := ?_); simp only [Act.put, List.setIfInBounds_toArray, List.set_cons_zero, List.set_cons_succ]; refine takeT 9 hH (hy := .inl ⟨by rfl, by (intro w hSw; try obtain ⟨u0, u1, u2, u3, u4, u5, u6, u7, u8, u9, u10, u11⟩ := hSw); (go_simp; try rfl)⟩) (h := ?_); simp only [Act.put, List.setIfInBounds_toArray, List.set_cons_zero, List.set_cons_succ]; refine takeT 10 hH (hy := .inl ⟨by rfl, by (intro w hSw; try obtain ⟨u0, u1, u2, u3, u4, u5, u6, u7, u8, u9, u10, u11⟩ := hSw); (go_simp; try rfl)⟩) (h := ?_); simp only [Act.put, List.setIfInBounds_toArray, List.set_cons_zero, List.set_cons_succ]; refine takeT 11 hH (hy := .inl ⟨by rfl, by (intro w hSw; try obtain ⟨u0, u1, u2, u3, u4, u5, u6, u7, u8, u9, u10, u11⟩ := hSw); (go_simp; try rfl)⟩) (h := ?_); simp only [Act.put, List.setIfInBounds_toArray, List.set_cons_zero, List.set_cons_succ]; refine takeT 12 hH (hy := .inl ⟨by rfl, by (intro w hSw; try obtain ⟨u0, u1, u2, u3, u4, u5, u6, u7, u8, u9, u10, u11⟩ := hSw); (go_simp; try rfl)⟩) (h := ?_); simp only [Act.put, List.setIfInBounds_toArray, List.set_cons_zero, List.set_cons_succ]; refine takeT 13 hH (hy := .inl ⟨by rfl, by (intro w hSw; try obtain ⟨u0, u1, u2, u3, u4, u5, u6, u7, u8, u9, u10, u11⟩ := hSw); (go_simp; try rfl)⟩) (h := ?_); simp only [Act.put, List.setIfInBounds_toArray, List.set_cons_zero, List.set_cons_succ]; refine takeT 14 hH (hy := .inl ⟨by rfl, by (intro w hSw; try obtain ⟨u0, u1, u2, u3, u4, u5, u6, u7, u8, u9, u10, u11⟩ := hSw); (go_simp; try rfl)⟩) (h := ?_); simp only [Act.put, List.setIfInBounds_toArray, List.set_cons_zero, List.set_cons_succ]
              refine takeT 15 hH (hy := .inl ⟨by rfl, by (intro w hSw; try obtain ⟨u0, u1, u2, u3, u4, u5, u6, u7, u8, u9, u10, u11⟩ := hSw); (go_simp; try rfl)⟩) (h := ?_); simp only [Act.put, List.setIfInBounds_toArray, List.set_cons_zero, List.set_cons_succ]; refine takeT 16 hH (hy := .inl ⟨by rfl, by (intro w hSw; try obtain ⟨u0, u1, u2, u3, u4, u5, u6, u7, u8, u9, u10, u11⟩ := hSw); (go_simp; try rfl)⟩) (h := ?_); simp only [Act.put, List.setIfInBounds_toArray, List.set_cons_zero, List.set_cons_succ]; refine takeT 18 hH (hy := .inl ⟨by rfl, by (intro w hSw; try obtain ⟨u0, u1, u2, u3, u4, u5, u6, u7, u8, u9, u10, u11⟩ := hSw); (go_simp; try rfl)⟩) (h := ?_); simp only [Act.put, List.setIfInBounds_toArray, List.set_cons_zero, List.set_cons_succ]; refine takeT 19 hH (hy := .inl ⟨by rfl, by (intro w hSw; try obtain ⟨u0, u1, u2, u3, u4, u5, u6, u7, u8, u9, u10, u11⟩ := hSw); (go_simp; try rfl)⟩) (h := ?_); simp only [Act.put, List.setIfInBounds_toArray, List.set_cons_zero, List.set_cons_succ]; refine takeT 20 hH (hy := .inl ⟨by rfl, by (intro w hSw; try obtain ⟨u0, u1, u2, u3, u4, u5, u6, u7, u8, u9, u10, u11⟩ := hSw); (go_simp; try rfl)⟩) (h := ?_); simp only [Act.put, List.setIfInBounds_toArray, List.set_cons_zero, List.set_cons_succ]; refine readyT [17] ?_; refine consT (fun K hK => ?_) AllReadyH.nil; go_simp
              go_wp2_with (go_at_call 29; refine (KIV.out _ [] T2).mono ?_; rintro e w3 ⟨rfl, T3⟩); clear hH; refine hK.out _ _ (KbaseA.out _ [] T3) (fun hH => ?_); clear hK K; refine readyT [21] ?_; refine consT (fun K hK => ?_) AllReadyH.nil; go_simp
              go_wp2_with (go_at_call 28; refine (KCX.out _ [] T3).mono ?_; rintro e w4 ⟨rfl, T4⟩); clear hH; refine hK.out _ _ (KbaseA.out _ [] T4) (fun hH => ?_); clear hK K; refine takeT 22 hH (hy := .inl ⟨by rfl, by (intro w hSw; try obtain ⟨u0, u1, u2, u3, u4, u5, u6, u7, u8, u9, u10, u11⟩ := hSw); (go_simp; try rfl)⟩) (h := ?_); simp only [Act.put, List.setIfInBounds_toArray, List.set_cons_zero, List.set_cons_succ]; refine takeT 23 hH (hy := .inl ⟨by rfl, by (intro w hSw; try obtain ⟨u0, u1, u2, u3, u4, u5, u6, u7, u8, u9, u10, u11⟩ := hSw); (go_simp; try rfl)⟩) (h := ?_); simp only [Act.put, List.setIfInBounds_toArray, List.set_cons_zero, List.set_cons_succ]
              refine wpAnyH_done (by kernel_rfl) ?_ _
              as_aux_lemma =>
                go_wp2_with fail
                go_meet
                exact ⟨rfl, T4⟩
          case rest =>
            obtain ⟨rfl, S⟩ := hcut
            rw [HbaseA.out] at S; clear KCC KCX KIV KbaseA HbaseA
            replace S : Sep w (boxR x11 (.cells #[.int .i64 4, .int .i64 vn, .string ⟨#[]⟩] 31) :: boxR x10 (.cells #[.string ⟨#[]⟩, .int .i64 0, .int .i64 0, .string ⟨#[]⟩, .bool false] 35) :: boxR x9 (.cells #[.int .i64 4, .int .i64 cn, .string ⟨#[]⟩] 31) :: boxR x8 (.cells #[.int .i64 x.kind, .int .i64 x.n, .string x.s] 31) :: boxR x6 (.cells #[.int .i64 4, .int .i64 (L + 19), .string ⟨#[]⟩] 31) :: valsR (.slice oa l.length oc) l :: heapR h (D2.add (instO (D2.name (V.ref cn hocn)) (HeapM.name_le _ _) (V.ref cn hocn))) :: boxR b (.cells #[.int .i64 a, .slice ba svs.length bc, .slice ia I.length ic] 46) :: []) _ := S
            have d0 := cellAt (S.box (b := x6) 4 rfl) 0 (v := .int .i64 4) rfl
            have d1 := cellAt (S.box (b := x6) 4 rfl) 1 (v := .int .i64 (L + 19)) rfl
            have d2 := cellAt (S.box (b := x6) 4 rfl) 2 (v := .string ⟨#[]⟩) rfl
            have d3 := cellAt (S.box (b := x8) 3 rfl) 0 (v := .int .i64 x.kind) rfl
            have d4 := cellAt (S.box (b := x8) 3 rfl) 1 (v := .int .i64 x.n) rfl
            have d5 := cellAt (S.box (b := x8) 3 rfl) 2 (v := .string x.s) rfl
            have d6 := cellAt (S.box (b := x11) 0 rfl) 0 (v := .int .i64 4) rfl
            have d7 := cellAt (S.box (b := x11) 0 rfl) 1 (v := .int .i64 vn) rfl
            have d8 := cellAt (S.box (b := x11) 0 rfl) 2 (v := .string ⟨#[]⟩) rfl
            have M := Lib.hid (kw_match S 6 rfl HOF.out.1.fit3.G (by omega) (V.ref (L + 19) hb19) (V.ref vn hov) x none HOF.out.1.mt false typeE rfl rfl); clear S
            go_wp2_with fail
            refine M.out.mono ?_
            rintro e w6 ⟨rfl, S⟩; clear M d0 d1 d2 d3 d4 d5 d6 d7 d8
            replace S : Sep w (boxR x11 (.cells #[.int .i64 4, .int .i64 vn, .string ⟨#[]⟩] 31) :: boxR x10 (.cells #[.string ⟨#[]⟩, .int .i64 0, .int .i64 0, .string ⟨#[]⟩, .bool false] 35) :: boxR x9 (.cells #[.int .i64 4, .int .i64 cn, .string ⟨#[]⟩] 31) :: boxR x8 (.cells #[.int .i64 x.kind, .int .i64 x.n, .string x.s] 31) :: boxR x6 (.cells #[.int .i64 4, .int .i64 (L + 19), .string ⟨#[]⟩] 31) :: valsR (.slice oa l.length oc) l :: heapR h (D2.add (instO (D2.name (V.ref cn hocn)) (HeapM.name_le _ _) (V.ref cn hocn))) :: boxR b (.cells #[.int .i64 a, .slice ba svs.length bc, .slice ia I.length ic] 46) :: []) _ := S
            obtain ⟨x14, hx14⟩ : ∃ gx_, (w6.heap.size) = gx_ := ⟨_, rfl⟩
            replace S := (S.alloc (.cells #[.string typeE, .int .i64 0, .int .i64 0, .string ⟨#[]⟩, .bool false] 35))
            simp only [World.size_alloc, hx14] at S
            replace S : Sep w (boxR x14 (.cells #[.string typeE, .int .i64 0, .int .i64 0, .string ⟨#[]⟩, .bool false] 35) :: boxR x11 (.cells #[.int .i64 4, .int .i64 vn, .string ⟨#[]⟩] 31) :: boxR x10 (.cells #[.string ⟨#[]⟩, .int .i64 0, .int .i64 0, .string ⟨#[]⟩, .bool false] 35) :: boxR x9 (.cells #[.int .i64 4, .int .i64 cn, .string ⟨#[]⟩] 31) :: boxR x8 (.cells #[.int .i64 x.kind, .int .i64 x.n, .string x.s] 31) :: boxR x6 (.cells #[.int .i64 4, .int .i64 (L + 19), .string ⟨#[]⟩] 31) :: valsR (.slice oa l.length oc) l :: heapR h (D2.add (instO (D2.name (V.ref cn hocn)) (HeapM.name_le _ _) (V.ref cn hocn))) :: boxR b (.cells #[.int .i64 a, .slice ba svs.length bc, .slice ia I.length ic] 46) :: []) _ := S
            obtain ⟨baseA, hbaseA⟩ : ∃ base, base = boxR x14 (.cells #[.string typeE, .int .i64 0, .int .i64 0, .string ⟨#[]⟩, .bool false] 35) :: boxR x11 (.cells #[.int .i64 4, .int .i64 vn, .string ⟨#[]⟩] 31) :: boxR x10 (.cells #[.string ⟨#[]⟩, .int .i64 0, .int .i64 0, .string ⟨#[]⟩, .bool false] 35) :: boxR x9 (.cells #[.int .i64 4, .int .i64 cn, .string ⟨#[]⟩] 31) :: boxR x8 (.cells #[.int .i64 x.kind, .int .i64 x.n, .string x.s] 31) :: boxR x6 (.cells #[.int .i64 4, .int .i64 (L + 19), .string ⟨#[]⟩] 31) :: valsR (.slice oa l.length oc) l :: heapR h (D2.add (instO (D2.name (V.ref cn hocn)) (HeapM.name_le _ _) (V.ref cn hocn))) :: boxR b (.cells #[.int .i64 a, .slice ba svs.length bc, .slice ia I.length ic] 46) :: [] := ⟨_, rfl⟩
            have HbaseA := Lib.hid hbaseA
            have KbaseA : Hid (∀ W (Q : List Res), Sep w (Q ++ baseA) W → W.cell? ⟨x6, 0, none⟩ = some (.int .i64 4) ∧ W.cell? ⟨x6, 1, none⟩ = some (.int .i64 (L + 19)) ∧ W.cell? ⟨x6, 2, none⟩ = some (.string ⟨#[]⟩) ∧ W.cell? ⟨x8, 0, none⟩ = some (.int .i64 x.kind) ∧ W.cell? ⟨x8, 1, none⟩ = some (.int .i64 x.n) ∧ W.cell? ⟨x8, 2, none⟩ = some (.string x.s) ∧ W.cell? ⟨x14, 0, none⟩ = some (.string typeE) ∧ W.cell? ⟨x14, 1, none⟩ = some (.int .i64 0) ∧ W.cell? ⟨x14, 2, none⟩ = some (.int .i64 0) ∧ W.cell? ⟨x14, 3, none⟩ = some (.string ⟨#[]⟩) ∧ W.cell? ⟨x14, 4, none⟩ = some (.bool false)) := Lib.hid fun W Q T => by
              rw [hbaseA] at T
              have i0 := T.box (b := x6) (o := .cells #[.int .i64 4, .int .i64 (L + 19), .string ⟨#[]⟩] 31) (Q.length + 5) (by rw [List.getElem?_append_right (by omega), Nat.add_sub_cancel_left]; rfl)
              have i1 := T.box (b := x8) (o := .cells #[.int .i64 x.kind, .int .i64 x.n, .string x.s] 31) (Q.length + 4) (by rw [List.getElem?_append_right (by omega), Nat.add_sub_cancel_left]; rfl)
              have i2 := T.box (b := x14) (o := .cells #[.string typeE, .int .i64 0, .int .i64 0, .string ⟨#[]⟩, .bool false] 35) (Q.length + 0) (by rw [List.getElem?_append_right (by omega), Nat.add_sub_cancel_left]; rfl)
              exact ⟨cellAt i0 0 rfl, cellAt i0 1 rfl, cellAt i0 2 rfl, cellAt i1 0 rfl, cellAt i1 1 rfl, cellAt i1 2 rfl, cellAt i2 0 rfl, cellAt i2 1 rfl, cellAt i2 2 rfl, cellAt i2 3 rfl, cellAt i2 4 rfl⟩
            have KCX : Hid (∀ W (Q : List Res), Sep w (Q ++ baseA) W → Calls Tryd.prog 28 #[.pointer (some ⟨h, 0, none⟩), .agg #[.int .i64 4, .int .i64 (L + 19), .string ⟨#[]⟩], .agg #[.int .i64 x.kind, .int .i64 x.n, .string x.s]] W fun e W' => e = .returned (.bool false) ∧ Sep w (Q ++ baseA) W') := Lib.hid fun W Q T => by
              rw [HbaseA.out] at T ⊢
              exact kw_cls T (Q.length + 7) (by rw [List.getElem?_append_right (by omega), Nat.add_sub_cancel_left]; rfl) HOF.out.1.fit3.G (by omega) (V.ref (L + 19) hb19) x false HOF.out.1.isX
            have KR : Hid (∀ W (Q : List Res), Sep w (Q ++ baseA) W → Calls Tryd.prog 8 #[] W fun e W' => e = .returned (.bool true) ∧ Sep w (Q ++ baseA) W') := Lib.hid fun W Q T => by
              exact raised_ok T HGL.out
            have hte : typeE.toList.isEmpty = false := by rw [ByteArray.toList_eq]; rfl
            replace S : Sep w (baseA) (w6.alloc (.cells #[.string typeE, .int .i64 0, .int .i64 0, .string ⟨#[]⟩, .bool false] 35)) := by rw [hbaseA]; exact S
            replace S := Lib.hid S; clear hbaseA
            go_upto_region 14 with fail
            (try simp only [hx14])
            obtain ⟨Wd14, hW⟩ : ∃ gx_, ((w6.alloc (.cells #[.string typeE, .int .i64 0, .int .i64 0, .string ⟨#[]⟩, .bool false] 35))) = gx_ := ⟨_, rfl⟩
            rw [hW] at S ⊢; clear hW hx14
            go_cut [4] (fun s4 wx => s4 = .bool true ∧ Below w.heap.size w wx)
            case first =>
              have T0 : Sep w ([] ++ baseA) _ := S.out.drew; clear S
              as_aux_lemma =>
                refine wp_region_held_drew (S := fun W => W.cell? ⟨x6, 0, none⟩ = some (.int .i64 4) ∧ W.cell? ⟨x6, 1, none⟩ = some (.int .i64 (L + 19)) ∧ W.cell? ⟨x6, 2, none⟩ = some (.string ⟨#[]⟩) ∧ W.cell? ⟨x8, 0, none⟩ = some (.int .i64 x.kind) ∧ W.cell? ⟨x8, 1, none⟩ = some (.int .i64 x.n) ∧ W.cell? ⟨x8, 2, none⟩ = some (.string x.s) ∧ W.cell? ⟨x14, 0, none⟩ = some (.string typeE) ∧ W.cell? ⟨x14, 1, none⟩ = some (.int .i64 0) ∧ W.cell? ⟨x14, 2, none⟩ = some (.int .i64 0) ∧ W.cell? ⟨x14, 3, none⟩ = some (.string ⟨#[]⟩) ∧ W.cell? ⟨x14, 4, none⟩ = some (.bool false)) (by kernel_rfl) (KbaseA.out _ [] T0) (fun hH => ?_); refine readyT [0] ?_; refine consT (fun K hK => ?_) AllReadyH.nil; go_simp
                go_wp2_with (go_at_call 8; refine (KR.out _ [] T0).mono ?_; rintro e w1 ⟨rfl, T1⟩); clear hH; refine hK.out _ _ (KbaseA.out _ [] T1) (fun hH => ?_); clear hK K; refine takeT 1 hH (hy := .inl ⟨by rfl, by (intro w hSw; try obtain ⟨u0, u1, u2, u3, u4, u5, u6, u7, u8, u9, u10⟩ := hSw); (go_simp; try rfl)⟩) (h := ?_); simp only [Act.put, List.setIfInBounds_toArray, List.set_cons_zero, List.set_cons_succ]; refine takeT 2 hH (hy := .inl ⟨by rfl, by (intro w hSw; try obtain ⟨u0, u1, u2, u3, u4, u5, u6, u7, u8, u9, u10⟩ := hSw); (go_simp; try rfl)⟩) (h := ?_); simp only [Act.put, List.setIfInBounds_toArray, List.set_cons_zero, List.set_cons_succ]; refine takeT 3 hH (hy := .inl ⟨by rfl, by (intro w hSw; try obtain ⟨u0, u1, u2, u3, u4, u5, u6, u7, u8, u9, u10⟩ := hSw); (go_simp; try rfl)⟩) (h := ?_); simp only [Act.put, List.setIfInBounds_toArray, List.set_cons_zero, List.set_cons_succ]; refine takeT 4 hH (hy := .inl ⟨by rfl, by (intro w hSw; try obtain ⟨u0, u1, u2, u3, u4, u5, u6, u7, u8, u9, u10⟩ := hSw); (go_simp; try rfl)⟩) (h := ?_); simp only [Act.put, List.setIfInBounds_toArray, List.set_cons_zero, List.set_cons_succ]; refine takeT 5 hH (hy := .inl ⟨by rfl, by (intro w hSw; try obtain ⟨u0, u1, u2, u3, u4, u5, u6, u7, u8, u9, u10⟩ := hSw); (go_simp; try rfl)⟩) (h := ?_); simp only [Act.put, List.setIfInBounds_toArray, List.set_cons_zero, List.set_cons_succ]; refine takeT 6 hH (hy := .inl ⟨by rfl, by (intro w hSw; try obtain ⟨u0, u1, u2, u3, u4, u5, u6, u7, u8, u9, u10⟩ := hSw); (go_simp; try rfl)⟩) (h := ?_); simp only [Act.put, List.setIfInBounds_toArray, List.set_cons_zero, List.set_cons_succ]; refine takeT 7 hH (hy := .inl ⟨by rfl, by (intro w hSw; try obtain ⟨u0, u1, u2, u3, u4, u5, u6, u7, u8, u9, u10⟩ := hSw); (go_simp; try rfl)⟩) (h := ?_); simp only [Act.put, List.setIfInBounds_toArray, List.set_cons_zero, List.set_cons_succ]
                refine takeT 8 hH (hy := .inl ⟨by rfl, by (intro w hSw; try obtain ⟨u0, u1, u2, u3, u4, u5, u6, u7, u8, u9, u10⟩ := hSw); (go_simp; try rfl)⟩) (h := ?_); simp only [Act.put, List.setIfInBounds_toArray, List.set_cons_zero, List.set_cons_succ]; refine takeT 9 hH (hy := .inl ⟨by rfl, by (intro w hSw; try obtain ⟨u0, u1, u2, u3, u4, u5, u6, u7, u8, u9, u10⟩ := hSw); (go_simp; try rfl)⟩) (h := ?_); simp only [Act.put, List.setIfInBounds_toArray, List.set_cons_zero, List.set_cons_succ]; refine takeT 10 hH (hy := .inl ⟨by rfl, by (intro w hSw; try obtain ⟨u0, u1, u2, u3, u4, u5, u6, u7, u8, u9, u10⟩ := hSw); (go_simp; try rfl)⟩) (h := ?_); simp only [Act.put, List.setIfInBounds_toArray, List.set_cons_zero, List.set_cons_succ]; refine takeT 11 hH (hy := .inl ⟨by rfl, by (intro w hSw; try obtain ⟨u0, u1, u2, u3, u4, u5, u6, u7, u8, u9, u10⟩ := hSw); (go_simp; try rfl)⟩) (h := ?_); simp only [Act.put, List.setIfInBounds_toArray, List.set_cons_zero, List.set_cons_succ]; refine takeT 12 hH (hy := .inl ⟨by rfl, by (intro w hSw; try obtain ⟨u0, u1, u2, u3, u4, u5, u6, u7, u8, u9, u10⟩ := hSw); (go_simp; try rfl)⟩) (h := ?_); simp only [Act.put, List.setIfInBounds_toArray, List.set_cons_zero, List.set_cons_succ]; refine takeT 13 hH (hy := .inl ⟨by rfl, by (intro w hSw; try obtain ⟨u0, u1, u2, u3, u4, u5, u6, u7, u8, u9, u10⟩ := hSw); (go_simp; try rfl)⟩) (h := ?_); simp only [Act.put, List.setIfInBounds_toArray, List.set_cons_zero, List.set_cons_succ]; refine takeT 14 hH (hy := .inl ⟨by rfl, by (intro w hSw; try obtain ⟨u0, u1, u2, u3, u4, u5, u6, u7, u8, u9, u10⟩ := hSw); (go_simp; try rfl)⟩) (h := ?_); simp only [Act.put, List.setIfInBounds_toArray, List.set_cons_zero, List.set_cons_succ]; refine readyT [15] ?_; refine consT (fun K hK => ?_) AllReadyH.nil; go_simp
                go_wp2_with (go_at_call 28; refine (KCX.out _ [] T1).mono ?_; rintro e w2 ⟨rfl, T2⟩); clear hH; refine hK.out _ _ (KbaseA.out _ [] T2) (fun hH => ?_); clear hK K; refine takeT 16 hH (hy := .inl ⟨by rfl, by (intro w hSw; try obtain ⟨u0, u1, u2, u3, u4, u5, u6, u7, u8, u9, u10⟩ := hSw); (go_simp; try rfl)⟩) (h := ?_); simp only [Act.put, List.setIfInBounds_toArray, List.set_cons_zero, List.set_cons_succ]; refine takeT 17 hH (hy := .inl ⟨by rfl, by (intro w hSw; try obtain ⟨u0, u1, u2, u3, u4, u5, u6, u7, u8, u9, u10⟩ := hSw); (go_simp; try rfl)⟩) (h := ?_); simp only [Act.put, List.setIfInBounds_toArray, List.set_cons_zero, List.set_cons_succ]; refine takeT 18 hH (hy := .inl ⟨by rfl, by (intro w hSw; try obtain ⟨u0, u1, u2, u3, u4, u5, u6, u7, u8, u9, u10⟩ := hSw); (go_simp; try rfl)⟩) (h := ?_); simp only [Act.put, List.setIfInBounds_toArray, List.set_cons_zero, List.set_cons_succ]
                refine wpAnyH_done (by kernel_rfl) ?_ _
                as_aux_lemma =>
                  go_wp2_with fail
                  go_meet
                  exact ⟨rfl, T2.below⟩
            case rest =>
              obtain ⟨rfl, hB⟩ := hcut
              have HB := Lib.hid hB; clear hB
              go_wp2
              go_ret
              exact ⟨rfl, HB.out⟩
        | true =>
          obtain ⟨baseA, hbaseA⟩ : ∃ base, base = boxR x11 (.cells #[.int .i64 4, .int .i64 vn, .string ⟨#[]⟩] 31) :: boxR x10 (.cells #[.string ⟨#[]⟩, .int .i64 0, .int .i64 0, .string ⟨#[]⟩, .bool false] 35) :: boxR x9 (.cells #[.int .i64 4, .int .i64 cn, .string ⟨#[]⟩] 31) :: boxR x8 (.cells #[.int .i64 x.kind, .int .i64 x.n, .string x.s] 31) :: boxR x6 (.cells #[.int .i64 4, .int .i64 (L + 19), .string ⟨#[]⟩] 31) :: valsR (.slice oa l.length oc) l :: heapR h (D2.add (instO (D2.name (V.ref cn hocn)) (HeapM.name_le _ _) (V.ref cn hocn))) :: boxR b (.cells #[.int .i64 a, .slice ba svs.length bc, .slice ia I.length ic] 46) :: [] := ⟨_, rfl⟩
          have HbaseA := Lib.hid hbaseA
          have KbaseA : Hid (∀ W (Q : List Res), Sep w (Q ++ baseA) W → W.cell? ⟨x6, 0, none⟩ = some (.int .i64 4) ∧ W.cell? ⟨x6, 1, none⟩ = some (.int .i64 (L + 19)) ∧ W.cell? ⟨x6, 2, none⟩ = some (.string ⟨#[]⟩) ∧ W.cell? ⟨x8, 0, none⟩ = some (.int .i64 x.kind) ∧ W.cell? ⟨x8, 1, none⟩ = some (.int .i64 x.n) ∧ W.cell? ⟨x8, 2, none⟩ = some (.string x.s) ∧ W.cell? ⟨x9, 0, none⟩ = some (.int .i64 4) ∧ W.cell? ⟨x9, 1, none⟩ = some (.int .i64 cn) ∧ W.cell? ⟨x9, 2, none⟩ = some (.string ⟨#[]⟩) ∧ W.cell? ⟨x11, 0, none⟩ = some (.int .i64 4) ∧ W.cell? ⟨x11, 1, none⟩ = some (.int .i64 vn) ∧ W.cell? ⟨x11, 2, none⟩ = some (.string ⟨#[]⟩)) := Lib.hid fun W Q T => by
            rw [hbaseA] at T
            have i0 := T.box (b := x6) (o := .cells #[.int .i64 4, .int .i64 (L + 19), .string ⟨#[]⟩] 31) (Q.length + 4) (by rw [List.getElem?_append_right (by omega), Nat.add_sub_cancel_left]; rfl)
            have i1 := T.box (b := x8) (o := .cells #[.int .i64 x.kind, .int .i64 x.n, .string x.s] 31) (Q.length + 3) (by rw [List.getElem?_append_right (by omega), Nat.add_sub_cancel_left]; rfl)
            have i2 := T.box (b := x9) (o := .cells #[.int .i64 4, .int .i64 cn, .string ⟨#[]⟩] 31) (Q.length + 2) (by rw [List.getElem?_append_right (by omega), Nat.add_sub_cancel_left]; rfl)
            have i3 := T.box (b := x11) (o := .cells #[.int .i64 4, .int .i64 vn, .string ⟨#[]⟩] 31) (Q.length + 0) (by rw [List.getElem?_append_right (by omega), Nat.add_sub_cancel_left]; rfl)
            exact ⟨cellAt i0 0 rfl, cellAt i0 1 rfl, cellAt i0 2 rfl, cellAt i1 0 rfl, cellAt i1 1 rfl, cellAt i1 2 rfl, cellAt i2 0 rfl, cellAt i2 1 rfl, cellAt i2 2 rfl, cellAt i3 0 rfl, cellAt i3 1 rfl, cellAt i3 2 rfl⟩
          have KCC : Hid (∀ W (Q : List Res), Sep w (Q ++ baseA) W → Calls Tryd.prog 28 #[.pointer (some ⟨h, 0, none⟩), .agg #[.int .i64 4, .int .i64 (L + 19), .string ⟨#[]⟩], .agg #[.int .i64 4, .int .i64 cn, .string ⟨#[]⟩]] W fun e W' => e = .returned (.bool true) ∧ Sep w (Q ++ baseA) W') := Lib.hid fun W Q T => by
            rw [HbaseA.out] at T ⊢
            exact kw_cls T (Q.length + 6) (by rw [List.getElem?_append_right (by omega), Nat.add_sub_cancel_left]; rfl) HOF.out.1.fit3.G (by omega) (V.ref (L + 19) hb19) (V.ref cn hocn) true HOF.out.1.isC
          have KCX : Hid (∀ W (Q : List Res), Sep w (Q ++ baseA) W → Calls Tryd.prog 28 #[.pointer (some ⟨h, 0, none⟩), .agg #[.int .i64 4, .int .i64 (L + 19), .string ⟨#[]⟩], .agg #[.int .i64 x.kind, .int .i64 x.n, .string x.s]] W fun e W' => e = .returned (.bool true) ∧ Sep w (Q ++ baseA) W') := Lib.hid fun W Q T => by
            rw [HbaseA.out] at T ⊢
            exact kw_cls T (Q.length + 6) (by rw [List.getElem?_append_right (by omega), Nat.add_sub_cancel_left]; rfl) HOF.out.1.fit3.G (by omega) (V.ref (L + 19) hb19) x true HOF.out.1.isX
          have KIV : Hid (∀ W (Q : List Res), Sep w (Q ++ baseA) W → Calls Tryd.prog 29 #[.pointer (some ⟨h, 0, none⟩), .agg #[.int .i64 4, .int .i64 (L + 19), .string ⟨#[]⟩], .agg #[.int .i64 4, .int .i64 vn, .string ⟨#[]⟩]] W fun e W' => e = .returned (.bool true) ∧ Sep w (Q ++ baseA) W') := Lib.hid fun W Q T => by
            rw [HbaseA.out] at T ⊢
            exact kw_is T (Q.length + 6) (by rw [List.getElem?_append_right (by omega), Nat.add_sub_cancel_left]; rfl) HOF.out.1.fit3.G (by omega) (V.ref (L + 19) hb19) (V.ref vn hov) true HOF.out.1.isV
          replace S : Sep w (baseA) (w5.alloc (.cells #[.int .i64 4, .int .i64 vn, .string ⟨#[]⟩] 31)) := by rw [hbaseA]; exact S
          replace S := Lib.hid S; clear hbaseA
          go_upto_region 11 with fail
          (try simp only [hx11])
          obtain ⟨Wd11, hW⟩ : ∃ gx_, ((w5.alloc (.cells #[.int .i64 4, .int .i64 vn, .string ⟨#[]⟩] 31))) = gx_ := ⟨_, rfl⟩
          rw [hW] at S ⊢; clear hW hx11
          go_cut [81] from 58 (fun s81 wx => s81 = .bool false ∧ Sep w baseA wx)
          case first =>
            have T0 : Sep w ([] ++ baseA) _ := S.out.drew; clear S
            as_aux_lemma =>
              refine wp_region_held_drew (S := fun W => W.cell? ⟨x6, 0, none⟩ = some (.int .i64 4) ∧ W.cell? ⟨x6, 1, none⟩ = some (.int .i64 (L + 19)) ∧ W.cell? ⟨x6, 2, none⟩ = some (.string ⟨#[]⟩) ∧ W.cell? ⟨x8, 0, none⟩ = some (.int .i64 x.kind) ∧ W.cell? ⟨x8, 1, none⟩ = some (.int .i64 x.n) ∧ W.cell? ⟨x8, 2, none⟩ = some (.string x.s) ∧ W.cell? ⟨x9, 0, none⟩ = some (.int .i64 4) ∧ W.cell? ⟨x9, 1, none⟩ = some (.int .i64 cn) ∧ W.cell? ⟨x9, 2, none⟩ = some (.string ⟨#[]⟩) ∧ W.cell? ⟨x11, 0, none⟩ = some (.int .i64 4) ∧ W.cell? ⟨x11, 1, none⟩ = some (.int .i64 vn) ∧ W.cell? ⟨x11, 2, none⟩ = some (.string ⟨#[]⟩)) (by kernel_rfl) (KbaseA.out _ [] T0) (fun hH => ?_); refine takeT 0 hH (hy := .inl ⟨by rfl, by (intro w hSw; try obtain ⟨u0, u1, u2, u3, u4, u5, u6, u7, u8, u9, u10, u11⟩ := hSw); (go_simp; try rfl)⟩) (h := ?_); simp only [Act.put, List.setIfInBounds_toArray, List.set_cons_zero, List.set_cons_succ]; refine takeT 1 hH (hy := .inl ⟨by rfl, by (intro w hSw; try obtain ⟨u0, u1, u2, u3, u4, u5, u6, u7, u8, u9, u10, u11⟩ := hSw); (go_simp; try rfl)⟩) (h := ?_); simp only [Act.put, List.setIfInBounds_toArray, List.set_cons_zero, List.set_cons_succ]; refine takeT 2 hH (hy := .inl ⟨by rfl, by (intro w hSw; try obtain ⟨u0, u1, u2, u3, u4, u5, u6, u7, u8, u9, u10, u11⟩ := hSw); (go_simp; try rfl)⟩) (h := ?_); simp only [Act.put, List.setIfInBounds_toArray, List.set_cons_zero, List.set_cons_succ]; refine takeT 4 hH (hy := .inl ⟨by rfl, by (intro w hSw; try obtain ⟨u0, u1, u2, u3, u4, u5, u6, u7, u8, u9, u10, u11⟩ := hSw); (go_simp; try rfl)⟩) (h := ?_); simp only [Act.put, List.setIfInBounds_toArray, List.set_cons_zero, List.set_cons_succ]; refine takeT 5 hH (hy := .inl ⟨by rfl, by (intro w hSw; try obtain ⟨u0, u1, u2, u3, u4, u5, u6, u7, u8, u9, u10, u11⟩ := hSw); (go_simp; try rfl)⟩) (h := ?_); simp only [Act.put, List.setIfInBounds_toArray, List.set_cons_zero, List.set_cons_succ]
              refine takeT 6 hH (hy := .inl ⟨by rfl, by (intro w hSw; try obtain ⟨u0, u1, u2, u3, u4, u5, u6, u7, u8, u9, u10, u11⟩ := hSw); (go_simp; try rfl)⟩) (h := ?_); simp only [Act.put, List.setIfInBounds_toArray, List.set_cons_zero, List.set_cons_succ]; refine readyT [3] ?_; refine consT (fun K hK => ?_) AllReadyH.nil; go_simp
              go_wp2_with (go_at_call 28; refine (KCC.out _ [] T0).mono ?_; rintro e w1 ⟨rfl, T1⟩); clear hH; refine hK.out _ _ (KbaseA.out _ [] T1) (fun hH => ?_); clear hK K; refine readyT [7] ?_; refine consT (fun K hK => ?_) AllReadyH.nil; go_simp
              go_wp2_with (go_at_call 28; refine (KCX.out _ [] T1).mono ?_; rintro e w2 ⟨rfl, T2⟩); clear hH; refine hK.out _ _ (KbaseA.out _ [] T2) (fun hH => ?_); clear hK K; refine takeT 8 hH (hy := .inl ⟨by rfl, by (intro w hSw; try obtain ⟨u0, u1, u2, u3, u4, u5, u6, u7, u8, u9, u10, u11⟩ := hSw); (go_simp; try rfl)⟩) (h := ?_); simp only [Act.put, List.setIfInBounds_toArray, List.set_cons_zero, List.set_cons_succ]; refine takeT 9 hH (hy := .inl ⟨by rfl, by (intro w hSw; try obtain ⟨u0, u1, u2, u3, u4, u5, u6, u7, u8, u9, u10, u11⟩ := hSw); (go_simp; try rfl)⟩) (h := ?_); simp only [Act.put, List.setIfInBounds_toArray, List.set_cons_zero, List.set_cons_succ]; refine takeT 10 hH (hy := .inl ⟨by rfl, by (intro w hSw; try obtain ⟨u0, u1, u2, u3, u4, u5, u6, u7, u8, u9, u10, u11⟩ := hSw); (go_simp; try rfl)⟩) (h := ?_); simp only [Act.put, List.setIfInBounds_toArray, List.set_cons_zero, List.set_cons_succ]; refine takeT 11 hH (hy := .inl ⟨by rfl, by (intro w hSw; try obtain ⟨u0, u1, u2, u3, u4, u5, u6, u7, u8, u9, u10, u11⟩ := hSw); (go_simp; try rfl)⟩) (h := ?_); simp only [Act.put, List.setIfInBounds_toArray, List.set_cons_zero, List.set_cons_succ]; refine takeT 12 hH (hy := .inl ⟨by rfl, by (intro w hSw; try obtain ⟨u0, u1, u2, u3, u4, u5, u6, u7, u8, u9, u10, u11⟩ := hSw); (go_simp; try rfl)⟩) (h := ?_); simp only [Act.put, List.setIfInBounds_toArray, List.set_cons_zero, List.set_cons_succ]; refine takeT 13 hH (hy := .inl ⟨by rfl, by (intro w hSw; try obtain ⟨u0, u1, u2, u3, u4, u5, u6, u7, u8, u9, u10, u11⟩ := hSw); (go_simp; try rfl)⟩) (h := ?_); simp only [Act.put, List.setIfInBounds_toArray, List.set_cons_zero, List.set_cons_succ]; refine takeT 14 hH (hy := .inl ⟨by rfl, by (intro w hSw; try obtain ⟨u0, u1, u2, u3, u4, u5, u6, u7, u8, u9, u10, u11⟩ := hSw); (go_simp; try rfl)⟩) (h := ?_); simp only [Act.put, List.setIfInBounds_toArray, List.set_cons_zero, List.set_cons_succ]
              refine takeT 15 hH (hy := .inl ⟨by rfl, by (intro w hSw; try obtain ⟨u0, u1, u2, u3, u4, u5, u6, u7, u8, u9, u10, u11⟩ := hSw); (go_simp; try rfl)⟩) (h := ?_); simp only [Act.put, List.setIfInBounds_toArray, List.set_cons_zero, List.set_cons_succ]; refine takeT 16 hH (hy := .inl ⟨by rfl, by (intro w hSw; try obtain ⟨u0, u1, u2, u3, u4, u5, u6, u7, u8, u9, u10, u11⟩ := hSw); (go_simp; try rfl)⟩) (h := ?_); simp only [Act.put, List.setIfInBounds_toArray, List.set_cons_zero, List.set_cons_succ]; refine takeT 18 hH (hy := .inl ⟨by rfl, by (intro w hSw; try obtain ⟨u0, u1, u2, u3, u4, u5, u6, u7, u8, u9, u10, u11⟩ := hSw); (go_simp; try rfl)⟩) (h := ?_); simp only [Act.put, List.setIfInBounds_toArray, List.set_cons_zero, List.set_cons_succ]; refine takeT 19 hH (hy := .inl ⟨by rfl, by (intro w hSw; try obtain ⟨u0, u1, u2, u3, u4, u5, u6, u7, u8, u9, u10, u11⟩ := hSw); (go_simp; try rfl)⟩) (h := ?_); simp only [Act.put, List.setIfInBounds_toArray, List.set_cons_zero, List.set_cons_succ]; refine takeT 20 hH (hy := .inl ⟨by rfl, by (intro w hSw; try obtain ⟨u0, u1, u2, u3, u4, u5, u6, u7, u8, u9, u10, u11⟩ := hSw); (go_simp; try rfl)⟩) (h := ?_); simp only [Act.put, List.setIfInBounds_toArray, List.set_cons_zero, List.set_cons_succ]; refine readyT [17] ?_; refine consT (fun K hK => ?_) AllReadyH.nil; go_simp
              go_wp2_with (go_at_call 29; refine (KIV.out _ [] T2).mono ?_; rintro e w3 ⟨rfl, T3⟩); clear hH; refine hK.out _ _ (KbaseA.out _ [] T3) (fun hH => ?_); clear hK K; refine readyT [21] ?_; refine consT (fun K hK => ?_) AllReadyH.nil; go_simp
              go_wp2_with (go_at_call 28; refine (KCX.out _ [] T3).mono ?_; rintro e w4 ⟨rfl, T4⟩); clear hH; refine hK.out _ _ (KbaseA.out _ [] T4) (fun hH => ?_); clear hK K; refine takeT 22 hH (hy := .inl ⟨by rfl, by (intro w hSw; try obtain ⟨u0, u1, u2, u3, u4, u5, u6, u7, u8, u9, u10, u11⟩ := hSw); (go_simp; try rfl)⟩) (h := ?_); simp only [Act.put, List.setIfInBounds_toArray, List.set_cons_zero, List.set_cons_succ]; refine takeT 23 hH (hy := .inl ⟨by rfl, by (intro w hSw; try obtain ⟨u0, u1, u2, u3, u4, u5, u6, u7, u8, u9, u10, u11⟩ := hSw); (go_simp; try rfl)⟩) (h := ?_); simp only [Act.put, List.setIfInBounds_toArray, List.set_cons_zero, List.set_cons_succ]
              refine wpAnyH_done (by kernel_rfl) ?_ _
              as_aux_lemma =>
                go_wp2_with fail
                go_meet
                exact ⟨rfl, T4⟩
          case rest =>
            obtain ⟨rfl, S⟩ := hcut
            rw [HbaseA.out] at S; clear KCC KCX KIV KbaseA HbaseA
            replace S : Sep w (boxR x11 (.cells #[.int .i64 4, .int .i64 vn, .string ⟨#[]⟩] 31) :: boxR x10 (.cells #[.string ⟨#[]⟩, .int .i64 0, .int .i64 0, .string ⟨#[]⟩, .bool false] 35) :: boxR x9 (.cells #[.int .i64 4, .int .i64 cn, .string ⟨#[]⟩] 31) :: boxR x8 (.cells #[.int .i64 x.kind, .int .i64 x.n, .string x.s] 31) :: boxR x6 (.cells #[.int .i64 4, .int .i64 (L + 19), .string ⟨#[]⟩] 31) :: valsR (.slice oa l.length oc) l :: heapR h (D2.add (instO (D2.name (V.ref cn hocn)) (HeapM.name_le _ _) (V.ref cn hocn))) :: boxR b (.cells #[.int .i64 a, .slice ba svs.length bc, .slice ia I.length ic] 46) :: []) _ := S
            have d0 := cellAt (S.box (b := x6) 4 rfl) 0 (v := .int .i64 4) rfl
            have d1 := cellAt (S.box (b := x6) 4 rfl) 1 (v := .int .i64 (L + 19)) rfl
            have d2 := cellAt (S.box (b := x6) 4 rfl) 2 (v := .string ⟨#[]⟩) rfl
            have d3 := cellAt (S.box (b := x8) 3 rfl) 0 (v := .int .i64 x.kind) rfl
            have d4 := cellAt (S.box (b := x8) 3 rfl) 1 (v := .int .i64 x.n) rfl
            have d5 := cellAt (S.box (b := x8) 3 rfl) 2 (v := .string x.s) rfl
            have d6 := cellAt (S.box (b := x11) 0 rfl) 0 (v := .int .i64 4) rfl
            have d7 := cellAt (S.box (b := x11) 0 rfl) 1 (v := .int .i64 vn) rfl
            have d8 := cellAt (S.box (b := x11) 0 rfl) 2 (v := .string ⟨#[]⟩) rfl
            have M := Lib.hid (kw_match S 6 rfl HOF.out.1.fit3.G (by omega) (V.ref (L + 19) hb19) (V.ref vn hov) x (some true) HOF.out.1.mt true ⟨#[]⟩ rfl rfl); clear S
            go_wp2_with fail
            refine M.out.mono ?_
            rintro e w6 ⟨rfl, S⟩; clear M d0 d1 d2 d3 d4 d5 d6 d7 d8
            replace S : Sep w (boxR x11 (.cells #[.int .i64 4, .int .i64 vn, .string ⟨#[]⟩] 31) :: boxR x10 (.cells #[.string ⟨#[]⟩, .int .i64 0, .int .i64 0, .string ⟨#[]⟩, .bool false] 35) :: boxR x9 (.cells #[.int .i64 4, .int .i64 cn, .string ⟨#[]⟩] 31) :: boxR x8 (.cells #[.int .i64 x.kind, .int .i64 x.n, .string x.s] 31) :: boxR x6 (.cells #[.int .i64 4, .int .i64 (L + 19), .string ⟨#[]⟩] 31) :: valsR (.slice oa l.length oc) l :: heapR h (D2.add (instO (D2.name (V.ref cn hocn)) (HeapM.name_le _ _) (V.ref cn hocn))) :: boxR b (.cells #[.int .i64 a, .slice ba svs.length bc, .slice ia I.length ic] 46) :: []) _ := S
            obtain ⟨x14, hx14⟩ : ∃ gx_, (w6.heap.size) = gx_ := ⟨_, rfl⟩
            replace S := (S.alloc (.cells #[.string ⟨#[]⟩, .int .i64 0, .int .i64 0, .string ⟨#[]⟩, .bool false] 35))
            simp only [World.size_alloc, hx14] at S
            replace S : Sep w (boxR x14 (.cells #[.string ⟨#[]⟩, .int .i64 0, .int .i64 0, .string ⟨#[]⟩, .bool false] 35) :: boxR x11 (.cells #[.int .i64 4, .int .i64 vn, .string ⟨#[]⟩] 31) :: boxR x10 (.cells #[.string ⟨#[]⟩, .int .i64 0, .int .i64 0, .string ⟨#[]⟩, .bool false] 35) :: boxR x9 (.cells #[.int .i64 4, .int .i64 cn, .string ⟨#[]⟩] 31) :: boxR x8 (.cells #[.int .i64 x.kind, .int .i64 x.n, .string x.s] 31) :: boxR x6 (.cells #[.int .i64 4, .int .i64 (L + 19), .string ⟨#[]⟩] 31) :: valsR (.slice oa l.length oc) l :: heapR h (D2.add (instO (D2.name (V.ref cn hocn)) (HeapM.name_le _ _) (V.ref cn hocn))) :: boxR b (.cells #[.int .i64 a, .slice ba svs.length bc, .slice ia I.length ic] 46) :: []) _ := S
            obtain ⟨baseA, hbaseA⟩ : ∃ base, base = boxR x14 (.cells #[.string ⟨#[]⟩, .int .i64 0, .int .i64 0, .string ⟨#[]⟩, .bool false] 35) :: boxR x11 (.cells #[.int .i64 4, .int .i64 vn, .string ⟨#[]⟩] 31) :: boxR x10 (.cells #[.string ⟨#[]⟩, .int .i64 0, .int .i64 0, .string ⟨#[]⟩, .bool false] 35) :: boxR x9 (.cells #[.int .i64 4, .int .i64 cn, .string ⟨#[]⟩] 31) :: boxR x8 (.cells #[.int .i64 x.kind, .int .i64 x.n, .string x.s] 31) :: boxR x6 (.cells #[.int .i64 4, .int .i64 (L + 19), .string ⟨#[]⟩] 31) :: valsR (.slice oa l.length oc) l :: heapR h (D2.add (instO (D2.name (V.ref cn hocn)) (HeapM.name_le _ _) (V.ref cn hocn))) :: boxR b (.cells #[.int .i64 a, .slice ba svs.length bc, .slice ia I.length ic] 46) :: [] := ⟨_, rfl⟩
            have HbaseA := Lib.hid hbaseA
            have KbaseA : Hid (∀ W (Q : List Res), Sep w (Q ++ baseA) W → W.cell? ⟨x6, 0, none⟩ = some (.int .i64 4) ∧ W.cell? ⟨x6, 1, none⟩ = some (.int .i64 (L + 19)) ∧ W.cell? ⟨x6, 2, none⟩ = some (.string ⟨#[]⟩) ∧ W.cell? ⟨x8, 0, none⟩ = some (.int .i64 x.kind) ∧ W.cell? ⟨x8, 1, none⟩ = some (.int .i64 x.n) ∧ W.cell? ⟨x8, 2, none⟩ = some (.string x.s) ∧ W.cell? ⟨x14, 0, none⟩ = some (.string ⟨#[]⟩) ∧ W.cell? ⟨x14, 1, none⟩ = some (.int .i64 0) ∧ W.cell? ⟨x14, 2, none⟩ = some (.int .i64 0) ∧ W.cell? ⟨x14, 3, none⟩ = some (.string ⟨#[]⟩) ∧ W.cell? ⟨x14, 4, none⟩ = some (.bool false)) := Lib.hid fun W Q T => by
              rw [hbaseA] at T
              have i0 := T.box (b := x6) (o := .cells #[.int .i64 4, .int .i64 (L + 19), .string ⟨#[]⟩] 31) (Q.length + 5) (by rw [List.getElem?_append_right (by omega), Nat.add_sub_cancel_left]; rfl)
              have i1 := T.box (b := x8) (o := .cells #[.int .i64 x.kind, .int .i64 x.n, .string x.s] 31) (Q.length + 4) (by rw [List.getElem?_append_right (by omega), Nat.add_sub_cancel_left]; rfl)
              have i2 := T.box (b := x14) (o := .cells #[.string ⟨#[]⟩, .int .i64 0, .int .i64 0, .string ⟨#[]⟩, .bool false] 35) (Q.length + 0) (by rw [List.getElem?_append_right (by omega), Nat.add_sub_cancel_left]; rfl)
              exact ⟨cellAt i0 0 rfl, cellAt i0 1 rfl, cellAt i0 2 rfl, cellAt i1 0 rfl, cellAt i1 1 rfl, cellAt i1 2 rfl, cellAt i2 0 rfl, cellAt i2 1 rfl, cellAt i2 2 rfl, cellAt i2 3 rfl, cellAt i2 4 rfl⟩
            have KCX : Hid (∀ W (Q : List Res), Sep w (Q ++ baseA) W → Calls Tryd.prog 28 #[.pointer (some ⟨h, 0, none⟩), .agg #[.int .i64 4, .int .i64 (L + 19), .string ⟨#[]⟩], .agg #[.int .i64 x.kind, .int .i64 x.n, .string x.s]] W fun e W' => e = .returned (.bool true) ∧ Sep w (Q ++ baseA) W') := Lib.hid fun W Q T => by
              rw [HbaseA.out] at T ⊢
              exact kw_cls T (Q.length + 7) (by rw [List.getElem?_append_right (by omega), Nat.add_sub_cancel_left]; rfl) HOF.out.1.fit3.G (by omega) (V.ref (L + 19) hb19) x true HOF.out.1.isX
            have KR : Hid (∀ W (Q : List Res), Sep w (Q ++ baseA) W → Calls Tryd.prog 8 #[] W fun e W' => e = .returned (.bool true) ∧ Sep w (Q ++ baseA) W') := Lib.hid fun W Q T => by
              exact raised_ok T HGL.out
            replace S : Sep w (baseA) (w6.alloc (.cells #[.string ⟨#[]⟩, .int .i64 0, .int .i64 0, .string ⟨#[]⟩, .bool false] 35)) := by rw [hbaseA]; exact S
            replace S := Lib.hid S; clear hbaseA
            go_upto_region 14 with fail
            (try simp only [hx14])
            obtain ⟨Wd14, hW⟩ : ∃ gx_, ((w6.alloc (.cells #[.string ⟨#[]⟩, .int .i64 0, .int .i64 0, .string ⟨#[]⟩, .bool false] 35))) = gx_ := ⟨_, rfl⟩
            rw [hW] at S ⊢; clear hW hx14
            go_cut [4] (fun s4 wx => s4 = .bool true ∧ Below w.heap.size w wx)
            case first =>
              have T0 : Sep w ([] ++ baseA) _ := S.out.drew; clear S
              as_aux_lemma =>
                refine wp_region_held_drew (S := fun W => W.cell? ⟨x6, 0, none⟩ = some (.int .i64 4) ∧ W.cell? ⟨x6, 1, none⟩ = some (.int .i64 (L + 19)) ∧ W.cell? ⟨x6, 2, none⟩ = some (.string ⟨#[]⟩) ∧ W.cell? ⟨x8, 0, none⟩ = some (.int .i64 x.kind) ∧ W.cell? ⟨x8, 1, none⟩ = some (.int .i64 x.n) ∧ W.cell? ⟨x8, 2, none⟩ = some (.string x.s) ∧ W.cell? ⟨x14, 0, none⟩ = some (.string ⟨#[]⟩) ∧ W.cell? ⟨x14, 1, none⟩ = some (.int .i64 0) ∧ W.cell? ⟨x14, 2, none⟩ = some (.int .i64 0) ∧ W.cell? ⟨x14, 3, none⟩ = some (.string ⟨#[]⟩) ∧ W.cell? ⟨x14, 4, none⟩ = some (.bool false)) (by kernel_rfl) (KbaseA.out _ [] T0) (fun hH => ?_); refine readyT [0] ?_; refine consT (fun K hK => ?_) AllReadyH.nil; go_simp
                go_wp2_with (go_at_call 8; refine (KR.out _ [] T0).mono ?_; rintro e w1 ⟨rfl, T1⟩); clear hH; refine hK.out _ _ (KbaseA.out _ [] T1) (fun hH => ?_); clear hK K; refine takeT 1 hH (hy := .inl ⟨by rfl, by (intro w hSw; try obtain ⟨u0, u1, u2, u3, u4, u5, u6, u7, u8, u9, u10⟩ := hSw); (go_simp; try rfl)⟩) (h := ?_); simp only [Act.put, List.setIfInBounds_toArray, List.set_cons_zero, List.set_cons_succ]; refine takeT 2 hH (hy := .inl ⟨by rfl, by (intro w hSw; try obtain ⟨u0, u1, u2, u3, u4, u5, u6, u7, u8, u9, u10⟩ := hSw); (go_simp; try rfl)⟩) (h := ?_); simp only [Act.put, List.setIfInBounds_toArray, List.set_cons_zero, List.set_cons_succ]; refine takeT 3 hH (hy := .inl ⟨by rfl, by (intro w hSw; try obtain ⟨u0, u1, u2, u3, u4, u5, u6, u7, u8, u9, u10⟩ := hSw); (go_simp; try rfl)⟩) (h := ?_); simp only [Act.put, List.setIfInBounds_toArray, List.set_cons_zero, List.set_cons_succ]; refine takeT 4 hH (hy := .inl ⟨by rfl, by (intro w hSw; try obtain ⟨u0, u1, u2, u3, u4, u5, u6, u7, u8, u9, u10⟩ := hSw); (go_simp; try rfl)⟩) (h := ?_); simp only [Act.put, List.setIfInBounds_toArray, List.set_cons_zero, List.set_cons_succ]; refine takeT 5 hH (hy := .inl ⟨by rfl, by (intro w hSw; try obtain ⟨u0, u1, u2, u3, u4, u5, u6, u7, u8, u9, u10⟩ := hSw); (go_simp; try rfl)⟩) (h := ?_); simp only [Act.put, List.setIfInBounds_toArray, List.set_cons_zero, List.set_cons_succ]; refine takeT 6 hH (hy := .inl ⟨by rfl, by (intro w hSw; try obtain ⟨u0, u1, u2, u3, u4, u5, u6, u7, u8, u9, u10⟩ := hSw); (go_simp; try rfl)⟩) (h := ?_); simp only [Act.put, List.setIfInBounds_toArray, List.set_cons_zero, List.set_cons_succ]; refine takeT 7 hH (hy := .inl ⟨by rfl, by (intro w hSw; try obtain ⟨u0, u1, u2, u3, u4, u5, u6, u7, u8, u9, u10⟩ := hSw); (go_simp; try rfl)⟩) (h := ?_); simp only [Act.put, List.setIfInBounds_toArray, List.set_cons_zero, List.set_cons_succ]
                refine takeT 8 hH (hy := .inl ⟨by rfl, by (intro w hSw; try obtain ⟨u0, u1, u2, u3, u4, u5, u6, u7, u8, u9, u10⟩ := hSw); (go_simp; try rfl)⟩) (h := ?_); simp only [Act.put, List.setIfInBounds_toArray, List.set_cons_zero, List.set_cons_succ]; refine takeT 9 hH (hy := .inl ⟨by rfl, by (intro w hSw; try obtain ⟨u0, u1, u2, u3, u4, u5, u6, u7, u8, u9, u10⟩ := hSw); (go_simp; try rfl)⟩) (h := ?_); simp only [Act.put, List.setIfInBounds_toArray, List.set_cons_zero, List.set_cons_succ]; refine takeT 10 hH (hy := .inl ⟨by rfl, by (intro w hSw; try obtain ⟨u0, u1, u2, u3, u4, u5, u6, u7, u8, u9, u10⟩ := hSw); (go_simp; try rfl)⟩) (h := ?_); simp only [Act.put, List.setIfInBounds_toArray, List.set_cons_zero, List.set_cons_succ]; refine takeT 11 hH (hy := .inl ⟨by rfl, by (intro w hSw; try obtain ⟨u0, u1, u2, u3, u4, u5, u6, u7, u8, u9, u10⟩ := hSw); (go_simp; try rfl)⟩) (h := ?_); simp only [Act.put, List.setIfInBounds_toArray, List.set_cons_zero, List.set_cons_succ]; refine takeT 12 hH (hy := .inl ⟨by rfl, by (intro w hSw; try obtain ⟨u0, u1, u2, u3, u4, u5, u6, u7, u8, u9, u10⟩ := hSw); (go_simp; try rfl)⟩) (h := ?_); simp only [Act.put, List.setIfInBounds_toArray, List.set_cons_zero, List.set_cons_succ]; refine takeT 13 hH (hy := .inl ⟨by rfl, by (intro w hSw; try obtain ⟨u0, u1, u2, u3, u4, u5, u6, u7, u8, u9, u10⟩ := hSw); (go_simp; try rfl)⟩) (h := ?_); simp only [Act.put, List.setIfInBounds_toArray, List.set_cons_zero, List.set_cons_succ]; refine takeT 14 hH (hy := .inl ⟨by rfl, by (intro w hSw; try obtain ⟨u0, u1, u2, u3, u4, u5, u6, u7, u8, u9, u10⟩ := hSw); (go_simp; try rfl)⟩) (h := ?_); simp only [Act.put, List.setIfInBounds_toArray, List.set_cons_zero, List.set_cons_succ]; refine readyT [15] ?_; refine consT (fun K hK => ?_) AllReadyH.nil; go_simp
                go_wp2_with (go_at_call 28; refine (KCX.out _ [] T1).mono ?_; rintro e w2 ⟨rfl, T2⟩); clear hH; refine hK.out _ _ (KbaseA.out _ [] T2) (fun hH => ?_); clear hK K; refine takeT 16 hH (hy := .inl ⟨by rfl, by (intro w hSw; try obtain ⟨u0, u1, u2, u3, u4, u5, u6, u7, u8, u9, u10⟩ := hSw); (go_simp; try rfl)⟩) (h := ?_); simp only [Act.put, List.setIfInBounds_toArray, List.set_cons_zero, List.set_cons_succ]; refine takeT 17 hH (hy := .inl ⟨by rfl, by (intro w hSw; try obtain ⟨u0, u1, u2, u3, u4, u5, u6, u7, u8, u9, u10⟩ := hSw); (go_simp; try rfl)⟩) (h := ?_); simp only [Act.put, List.setIfInBounds_toArray, List.set_cons_zero, List.set_cons_succ]; refine takeT 18 hH (hy := .inl ⟨by rfl, by (intro w hSw; try obtain ⟨u0, u1, u2, u3, u4, u5, u6, u7, u8, u9, u10⟩ := hSw); (go_simp; try rfl)⟩) (h := ?_); simp only [Act.put, List.setIfInBounds_toArray, List.set_cons_zero, List.set_cons_succ]
                refine wpAnyH_done (by kernel_rfl) ?_ _
                as_aux_lemma =>
                  go_wp2_with fail
                  go_meet
                  exact ⟨rfl, T2.below⟩
            case rest =>
              obtain ⟨rfl, hB⟩ := hcut
              have HB := Lib.hid hB; clear hB
              go_wp2
              go_ret
              exact ⟨rfl, HB.out⟩
      · subst he hcv
        replace S : Sep w (boxR x10 (.cells #[.string typeError, .int .i64 0, .int .i64 0, .string ⟨#[]⟩, .bool false] 35) :: boxR x9 (.cells #[.int .i64 0, .int .i64 0, .string ⟨#[]⟩] 31) :: boxR x8 (.cells #[.int .i64 x.kind, .int .i64 x.n, .string x.s] 31) :: boxR x6 (.cells #[.int .i64 4, .int .i64 (L + 19), .string ⟨#[]⟩] 31) :: valsR (.slice oa l.length oc) l :: heapR h D2 :: boxR b (.cells #[.int .i64 a, .slice ba svs.length bc, .slice ia I.length ic] 46) :: []) _ := S
        have HK6 := Lib.hid hk6; clear hk6 HOK; have z0 := cellAt (S.box (b := x10) 0 rfl) 0 (v := .string typeError) rfl
        have hte : typeError.toList.isEmpty = false := by rw [ByteArray.toList_eq]; rfl
        have M := Lib.hid (raised_ok S HGL.out); clear S
        go_wp2_with fail
        refine M.out.mono ?_
        rintro e w5 ⟨rfl, S⟩; clear M; clear z0
        replace S : Sep w (boxR x10 (.cells #[.string typeError, .int .i64 0, .int .i64 0, .string ⟨#[]⟩, .bool false] 35) :: boxR x9 (.cells #[.int .i64 0, .int .i64 0, .string ⟨#[]⟩] 31) :: boxR x8 (.cells #[.int .i64 x.kind, .int .i64 x.n, .string x.s] 31) :: boxR x6 (.cells #[.int .i64 4, .int .i64 (L + 19), .string ⟨#[]⟩] 31) :: valsR (.slice oa l.length oc) l :: heapR h D2 :: boxR b (.cells #[.int .i64 a, .slice ba svs.length bc, .slice ia I.length ic] 46) :: []) _ := S
        have d0 := cellAt (S.box (b := x8) 2 rfl) 0 (v := .int .i64 x.kind) rfl
        have d1 := cellAt (S.box (b := x8) 2 rfl) 1 (v := .int .i64 x.n) rfl
        have d2 := cellAt (S.box (b := x8) 2 rfl) 2 (v := .string x.s) rfl
        have M := Lib.hid (kr_kind S 5 rfl x 6 HK6.out); clear S
        go_wp2_with fail
        refine M.out.mono ?_
        rintro e w6 ⟨rfl, S⟩; clear M d0 d1 d2
        have HS := Lib.hid S.below; clear S
        go_wp2
        go_ret
        exact ⟨rfl, HS.out⟩
theorem witness_row (os : Os) {H : Type} (enc : TypeId × Value → H) :
    (OpenSpec.ofChange Rows.faultOwnSpec).preRow enc Tryd.prog Tryd.f6 Rows.faultOwnRow.domain false Rows.faultOwnRow.laid ((laidWorld os).forCall (fun _ _ => 0) ⟨#[], #[.agg #[.int .i64 0, .slice none 0 0, .slice none 0 0], .int .i64 0], []⟩).memory #[.agg #[.int .i64 0, .slice none 0 0, .slice none 0 0], .int .i64 0] := by
  have hw : (DataW.whole enc Tryd.prog ((laidWorld os).forCall (fun _ _ => 0) ⟨#[], #[.agg #[.int .i64 0, .slice none 0 0, .slice none 0 0], .int .i64 0], []⟩).memory Tryd.f6.params.toList (OpenSpec.ofChange Rows.faultOwnSpec).vars false #[.agg #[.int .i64 0, .slice none 0 0, .slice none 0 0], .int .i64 0].toList 8).map (fun x => (x.1, x.2.1)) =
      some ([.agg [.lit (.int .i64 0), .nil, .nil], .lit (.int .i64 0)], []) := by kernel_rfl
  obtain ⟨⟨x1, x2, x3⟩, hx, hx1⟩ := Option.map_eq_some_iff.1 hw
  simp only [Prod.mk.injEq] at hx1
  obtain ⟨rfl, rfl⟩ := hx1
  exact OpenSpec.preRow_of_cond 8 hx (by kernel_rfl) (fun k hk => by cases hk) (by kernel_rfl) (laid_met os _)
set_option maxRecDepth 100000 in
theorem lifted (os : Os) (started : os.Started) (H : Type) (enc : TypeId × Value → H) (F : Stop.Interp) :
    ReturnsInHanded {} Tryd.checked os 6 .any ((OpenSpec.ofChange Rows.faultOwnSpec).preRow enc Tryd.prog Tryd.f6 Rows.faultOwnRow.domain false Rows.faultOwnRow.laid) (((OpenSpec.ofChange Rows.faultOwnSpec).at F).post enc Tryd.prog Tryd.f6 false true false false) := by
  refine law_lift_laid (C := Tryd.checked) own started (by kernel_rfl) Tryd.func6
    (witness_row_atRef (enc := enc) (C := Tryd.checked) false (laidWorld os) #[.agg #[.int .i64 0, .slice none 0 0, .slice none 0 0], .int .i64 0] rfl (by kernel_rfl) (by kernel_rfl) (by kernel_rfl) (witness_row os enc))
    (by kernel_rfl) (by kernel_rfl) rfl (fun ds h => by
      match ds, h with
      | [d1, d2], _ => exact ⟨rfl, rfl, rfl⟩) rfl Tryd.underlying4 ?_
  intro W base args ds ps hval hA hlt hwt hL hsh
  rw [Tryd.params6] at hA hval
  obtain ⟨v0, vs0, d0, ds0, p0, q0, hargs, rfl, rfl, h0, r0⟩ := trodAll_cons hA
  obtain ⟨v1, vs1, d1, ds1, p1, q1, rfl, rfl, rfl, h1, r1⟩ := trodAll_cons r0
  obtain ⟨rfl, rfl, rfl⟩ := trodAll_nil r1
  obtain rfl : args = #[v0, v1] := by cases args; simp_all
  obtain ⟨cs0, rfl, hsz0⟩ := okWide_struct Tryd.underlying46 (hval 0 46 v0 rfl rfl)
  obtain ⟨fuel0, hf0⟩ := h0
  obtain ⟨a, ba, bc, svs, B, ia, ic, I, e0, _, hP⟩ := open_plan (cs := cs0.toList) hf0
  obtain rfl : cs0 = [.int .i64 a, .slice ba svs.length bc, .slice ia I.length ic].toArray := by rw [← e0]
  obtain ⟨i, rfl, rfl, rfl, w1⟩ := open_int Tryd.underlying3 (hval 1 3 v1 rfl rfl) h1
  exact walk_at W (globF hL hsh) hP a i
theorem said : Rows.FaultOwnSaid :=
  OpenClaim.holds_of_cond 6 Tryd.f6 rfl rfl rfl rfl rfl rfl rfl ⟨rfl, rfl, rfl, rfl, rfl⟩ rfl rfl rfl rfl rfl (by kernel_rfl) Tryd.func6 (by kernel_rfl)
    (of_decide_eq_true (by kernel_rfl)) (by unfold Func.isWrapper; first | (rw [if_pos (by decide +kernel)]; kernel_rfl) | (rw [if_neg (by decide +kernel)]; exact ⟨rfl, rfl⟩))
    (fun os started H enc _ F => by rw [OpenClaim.pre_eq_preRow]; exact lifted os started H enc F)
theorem plain (f : FuncId) (fn : Func) (hf : Tryd.pinned.checked.prog.funcNamed "krait/kraitlaw15.FaultOwn" = some f) (hfn : Tryd.pinned.checked.prog.funcs[f]? = some fn) :
    false = Tryd.pinned.checked.prog.looks [] ∧ ∀ (j : Nat) t, fn.params[j]? = some t → Tryd.pinned.checked.prog.wantsStandIn t = false := by
  obtain rfl : f = 6 := Option.some.inj ((show Tryd.prog.funcNamed "krait/kraitlaw15.FaultOwn" = some 6 by kernel_rfl).symm.trans hf) |>.symm
  obtain rfl : fn = Tryd.f6 := (Option.some.inj (Tryd.func6.symm.trans hfn)).symm
  refine ⟨by kernel_rfl, fun j t ht => ?_⟩
  rw [Tryd.params6] at ht
  have hm := Array.mem_of_getElem? ht
  simp at hm
  rcases hm with rfl | rfl
  · exact (show Tryd.prog.wantsStandIn 46 = false by kernel_rfl)
  · exact (show Tryd.prog.wantsStandIn 3 = false by kernel_rfl)
theorem proved : Rows.FaultOwnCardSaid :=
  Claim7.holds_tied_plain_at .later [] _ _ _ _ said (fun _ h => by cases h) (by kernel_rfl) (fun _ h => by cases h) faultOwn_row_tie rfl ⟨rfl, rfl⟩ (by kernel_rfl) rfl plain (by kernel_rfl)
#print axioms proved
end Go.Proofs.YtobcnffjfclolaaDoor.faultOwn

