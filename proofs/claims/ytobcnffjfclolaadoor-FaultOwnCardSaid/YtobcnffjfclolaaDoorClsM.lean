import Derived.Test.YtobcnffjfclolaaDoorObjK
/- ch 14's example, plainly; what Get answers. -/
namespace Go.Proofs.YtobcnffjfclolaaDoor
set_option linter.unusedSimpArgs false
open Go.RowKit
set_option linter.unusedVariables false
theorem mkClass_of {H : HeapM} {s : ByteArray} {hs : s.size ≤ maxLen} {bases : List V} {space : V} {l : List Int} (h : H.c3 bases = some l) (hk : H.kind space = 3) : H.mkClass s hs bases space = some (H.add (classO s hs l (H.pairs space))) := by
  unfold HeapM.mkClass; rw [h]; simp only; rw [if_pos hk]
theorem mkClass_no {H : HeapM} {s : ByteArray} {hs : s.size ≤ maxLen} {bases : List V} {space : V} (h : H.c3 bases = none) : H.mkClass s hs bases space = none := by
  unfold HeapM.mkClass; rw [h]
namespace KO
def f : V := keyS ⟨#[102]⟩ (by decide)
def r1 : V := V.ref 1 (by decide)
def r2 : V := V.ref 2 (by decide)
def r3 : V := V.ref 3 (by decide)
def r5 : V := V.ref 5 (by decide)
def r6 : V := V.ref 6 (by decide)
def i3 : V := ⟨2, 3, ⟨#[]⟩, by decide, by decide, by decide⟩
def oD0 : ObjM := ⟨3, ⟨#[]⟩, 0, [], [], by decide, by decide, by decide⟩
def oF : ObjM := ⟨4, ⟨#[102]⟩, 0, [], [], by decide, by decide, by decide⟩
def oD1 : ObjM := ⟨3, ⟨#[]⟩, 0, [], [(f, r2)], by decide, by decide, by decide⟩
def oA : ObjM := ⟨5, ⟨#[65]⟩, 0, [], [(f, r2)], by decide, by decide, by decide⟩
def oB : ObjM := ⟨5, ⟨#[66]⟩, 0, [r3], [], by decide, by decide, by decide⟩
def oX : ObjM := ⟨6, ⟨#[66]⟩, 0, [r5], [], by decide, by decide, by decide⟩
def oM : ObjM := ⟨7, ⟨#[102]⟩, 0, [r6, r2], [], by decide, by decide, by decide⟩
def oX1 : ObjM := ⟨6, ⟨#[66]⟩, 0, [r5], [(f, i3)], by decide, by decide, by decide⟩
def H0 : HeapM := ⟨[], 0⟩
def H1 : HeapM := ⟨[(1, oD0)], 1⟩
def H2 : HeapM := ⟨[(1, oD0), (2, oF)], 2⟩
def H3 : HeapM := ⟨[(1, oD1), (2, oF)], 2⟩
def H4 : HeapM := ⟨[(1, oD1), (2, oF), (3, oA)], 3⟩
def H5 : HeapM := ⟨[(1, oD1), (2, oF), (3, oA), (4, oD0)], 4⟩
def H8 : HeapM := ⟨[(1, oD1), (2, oF), (3, oA), (4, oD0), (5, oB), (6, oX), (7, oM)], 7⟩
def H9 : HeapM := ⟨[(1, oD1), (2, oF), (3, oA), (4, oD0), (5, oB), (6, oX1), (7, oM)], 7⟩
theorem e1 : H0.add oD0 = H1 := rfl
theorem e2 : H1.add oF = H2 := rfl
theorem e3 : H2.put r1 f r2 = H3 := by rfl
theorem c3 : H2.canPut r1 f = true := by decide +kernel
theorem e4 (h : (⟨#[65]⟩ : ByteArray).size ≤ maxLen) : H3.mkClass ⟨#[65]⟩ h [] r1 = some H4 := by
  rw [mkClass_of (l := []) (by decide +kernel) (by decide +kernel)]; rfl
theorem e5 : H4.add oD0 = H5 := rfl
theorem e9 : H8.put r6 f i3 = H9 := by rfl
theorem cl : H9.isClass r3 = true ∧ H9.isClass r5 = true := by decide +kernel
end KO
end Go.Proofs.YtobcnffjfclolaaDoor
/- Classes in good order, plainly. -/
namespace Go.Proofs.YtobcnffjfclolaaDoor
set_option linter.unusedSimpArgs false
open Go.RowKit
set_option linter.unusedVariables false
/-- What a value is once an object was made. -/
theorem of_add {H : HeapM} {N : Nat} (G : H.Good N) (o : ObjM) (v : V) : (H.add o).of v = if v.kind = 4 ∧ v.n = H.last + 1 then some o else H.of v := by
  by_cases hk : v.kind = 4
  · by_cases hn : v.n = H.last + 1
    · rw [if_pos ⟨hk, hn⟩]
      unfold HeapM.of
      rw [if_pos hk]
      exact getL_of_mem (G.add o).ok.nk (List.mem_append_right _ (by simp [hn]))
    · rw [if_neg (by simp [hn])]
      cases g : H.of v with
      | some ob => exact add_of_old G o g
      | none =>
        unfold HeapM.of at g ⊢
        rw [if_pos hk] at g ⊢
        rw [getL_none] at g ⊢
        intro p hp
        rcases List.mem_append.1 hp with h | h
        · exact g p h
        · simp at h; subst h; exact fun e => hn e.symm
  · rw [if_neg (by simp [hk])]
    unfold HeapM.of
    rw [if_neg hk, if_neg hk]
theorem getL_cons {X : Type} (q : Int × X) (r : List (Int × X)) (m : Int) : getL (q :: r) m = if q.1 = m then some q.2 else getL r m := by
  by_cases e : q.1 = m <;> simp [getL, e]
theorem getL_mapset {l : List (Int × ObjM)} {n m : Int} (o : ObjM) : getL (l.map fun p => if p.1 = n then (n, o) else p) m = if m = n then (getL l n).map fun _ => o else getL l m := by
  induction l with
  | nil => simp [getL]
  | cons p r ih =>
    rw [List.map_cons, getL_cons, ih, getL_cons, getL_cons]
    by_cases e : p.1 = n
    · rw [if_pos e]
      by_cases hm : m = n
      · subst hm; simp [e]
      · simp [hm, e, Ne.symm hm]
    · rw [if_neg e]
      by_cases hm : m = n
      · subst hm; simp [e]
      · simp [hm]
theorem of_put (H : HeapM) (v k x y : V) : (H.put v k x).of y = match H.of y with
    | none => none
    | some o => some (if y.n = v.n ∧ H.canPut v k = true then { o with pairs := putL o.pairs k x } else o) := by
  unfold HeapM.put HeapM.canPut
  cases g : H.of v with
  | none => simp; cases H.of y <;> rfl
  | some ov =>
    simp only
    have gv := HeapM.of_some g
    by_cases hp : putOk ov.pairs k = true
    · rw [if_pos hp]
      simp only [hp, and_true]
      unfold HeapM.of HeapM.set
      by_cases hk : y.kind = 4
      · rw [if_pos hk, if_pos hk]
        simp only
        rw [getL_mapset]
        by_cases hn : y.n = v.n
        · rw [if_pos hn, hn, gv.2]; simp
        · rw [if_neg hn]; cases getL H.objs y.n <;> simp [hn]
      · rw [if_neg hk, if_neg hk]
    · rw [if_neg hp]
      have : putOk ov.pairs k = false := by simpa using hp
      simp only [this]
      cases H.of y <;> simp
theorem kind_put (H : HeapM) (v k x y : V) : (H.put v k x).kind y = H.kind y := by
  unfold HeapM.kind
  rw [of_put]
  cases H.of y with
  | none => rfl
  | some o => simp only; split <;> rfl
theorem items_put (H : HeapM) (v k x y : V) : (H.put v k x).items y = H.items y := by
  unfold HeapM.items
  rw [of_put]
  cases H.of y with
  | none => rfl
  | some o => simp only; split <;> rfl
theorem kind_add {H : HeapM} {N : Nat} (G : H.Good N) (o : ObjM) (v : V) : (H.add o).kind v = if v.kind = 4 ∧ v.n = H.last + 1 then o.kind else H.kind v := by
  unfold HeapM.kind; rw [of_add G]; split <;> rfl
theorem items_add {H : HeapM} {N : Nat} (G : H.Good N) (o : ObjM) (v : V) : (H.add o).items v = if v.kind = 4 ∧ v.n = H.last + 1 then o.items else H.items v := by
  unfold HeapM.items; rw [of_add G]; split <;> rfl
theorem pairs_add {H : HeapM} {N : Nat} (G : H.Good N) (o : ObjM) (v : V) : (H.add o).pairs v = if v.kind = 4 ∧ v.n = H.last + 1 then o.pairs else H.pairs v := by
  unfold HeapM.pairs; rw [of_add G]; split <;> rfl
theorem kind_le {H : HeapM} {N : Nat} (G : H.Good N) {v : V} (h : H.kind v ≠ 0) : v.kind = 4 ∧ 1 ≤ v.n ∧ v.n ≤ H.last := by
  unfold HeapM.kind at h
  cases g : H.of v with
  | none => rw [g] at h; simp at h
  | some o =>
    have h1 := HeapM.of_some g
    have := G.ok.pos _ (getL_mem h1.2)
    exact ⟨h1.1, this⟩
theorem class_le {H : HeapM} {N : Nat} (G : H.Good N) {v : V} (h : H.isClass v = true) : v.kind = 4 ∧ 1 ≤ v.n ∧ v.n ≤ H.last := by
  have : H.kind v = 5 := by simpa [HeapM.isClass] using h
  exact kind_le G (by omega)
theorem class_add {H : HeapM} {N : Nat} (G : H.Good N) (o : ObjM) {v : V} (h : H.isClass v = true) : (H.add o).isClass v = true := by
  have h1 := class_le G h
  unfold HeapM.isClass at h ⊢
  rw [kind_add G, if_neg (by omega)]; exact h
theorem asRef_eq {v u : V} (h : v = v.asRef) (hu : u = u.asRef) (hn : v.n = u.n) : v = u := by
  rw [h, hu]; unfold V.asRef V.ref; simp only [hn]
theorem kind_asRef {H : HeapM} {v : V} (hk : v.kind = 4) : H.of v.asRef = H.of v := by
  unfold HeapM.of
  rw [if_pos hk, if_pos (show v.asRef.kind = 4 from rfl)]; rfl
theorem isClass_asRef {H : HeapM} {v : V} (h : H.isClass v = true) : H.isClass v.asRef = true := by
  have hk : v.kind = 4 := by
    obtain ⟨o, ho, _⟩ := HeapM.isClass_of h
    exact (HeapM.of_some ho).1
  unfold HeapM.isClass HeapM.kind at h ⊢
  rw [kind_asRef hk]; exact h
/-- Classes in good order. -/
structure HeapM.Cls (H : HeapM) : Prop where
  items : ∀ v, H.isClass v = true → ∀ x ∈ H.items v, H.isClass x = true ∧ x = x.asRef ∧ x.n < v.n
  tr : ∀ v, H.isClass v = true → ∀ x ∈ H.items v, ∀ y ∈ H.items x, y ∈ H.items v
  nd : ∀ v, H.isClass v = true → (H.items v).Nodup
theorem HeapM.Cls.order {H : HeapM} (C : H.Cls) {v : V} (h : H.isClass v = true) : H.order v = v.asRef :: H.items v := by
  unfold HeapM.order
  rw [if_pos h]
  congr 1
  have h1 : (H.items v).filter H.isClass = H.items v := List.filter_eq_self.2 fun x hx => (C.items v h x hx).1
  rw [h1]
  conv => rhs; rw [← List.map_id (H.items v)]
  exact List.map_congr_left fun x hx => (C.items v h x hx).2.1.symm
theorem order_no {H : HeapM} {v : V} (h : H.isClass v = false) : H.order v = [] := by unfold HeapM.order; rw [if_neg (by simp [h])]
theorem HeapM.Cls.order_mem {H : HeapM} (C : H.Cls) {v x : V} (hx : x ∈ H.order v) : H.isClass v = true ∧ H.isClass x = true ∧ x = x.asRef ∧ x.n ≤ v.n ∧ (x.n = v.n → x = v.asRef) := by
  cases h : H.isClass v with
  | false => rw [order_no h] at hx; cases hx
  | true =>
    rw [C.order h] at hx
    rcases List.mem_cons.1 hx with e | e
    · subst e; exact ⟨rfl, isClass_asRef h, rfl, Int.le_refl _, fun _ => rfl⟩
    · have := C.items v h x e
      exact ⟨rfl, this.1, this.2.1, by omega, fun e => by omega⟩
theorem items_asRef {H : HeapM} {v : V} (h : H.isClass v = true) : H.items v.asRef = H.items v := by
  have hk : v.kind = 4 := by
    obtain ⟨o, ho, _⟩ := HeapM.isClass_of h
    exact (HeapM.of_some ho).1
  unfold HeapM.items; rw [kind_asRef hk]
theorem order_asRef {H : HeapM} {v : V} (h : H.isClass v = true) : H.order v.asRef = H.order v := by
  unfold HeapM.order
  rw [if_pos h, if_pos (isClass_asRef h), items_asRef h]; rfl
/-- What comes of what a class comes of. -/
theorem HeapM.Cls.sub {H : HeapM} (C : H.Cls) {a b : V} (hb : b ∈ H.order a) : ∀ c ∈ H.order b, c ∈ H.order a := by
  intro c hc
  obtain ⟨ha, hb1, hbr, _, _⟩ := C.order_mem hb
  rw [C.order ha] at hb ⊢
  rcases List.mem_cons.1 hb with e | e
  · subst e
    rw [order_asRef ha, C.order ha] at hc
    exact hc
  · rw [C.order hb1, ← hbr] at hc
    rcases List.mem_cons.1 hc with e' | e'
    · subst e'; exact List.mem_cons_of_mem _ e
    · exact List.mem_cons_of_mem _ (C.tr a ha b e c e')
theorem HeapM.Cls.order_nd {H : HeapM} (C : H.Cls) (v : V) : (H.order v).Nodup := by
  cases h : H.isClass v with
  | false => rw [order_no h]; exact List.nodup_nil
  | true =>
    rw [C.order h, List.nodup_cons]
    refine ⟨fun hm => ?_, C.nd v h⟩
    have := (C.items v h _ hm).2.2
    exact absurd this (by show ¬ v.n < v.n; omega)
/-- Only pairs have changed. -/
theorem HeapM.Cls.same {H H' : HeapM} (C : H.Cls) (hk : ∀ v, H'.kind v = H.kind v) (hi : ∀ v, H'.items v = H.items v) : H'.Cls := by
  have hc : ∀ v, H'.isClass v = H.isClass v := fun v => by unfold HeapM.isClass; rw [hk]
  exact ⟨fun v hv x hx => by rw [hc] at hv ⊢; rw [hi] at hx; exact C.items v hv x hx, fun v hv x hx y hy => by rw [hc] at hv; rw [hi] at hx hy ⊢; exact C.tr v hv x hx y hy, fun v hv => by rw [hc] at hv; rw [hi]; exact C.nd v hv⟩
theorem HeapM.Cls.put {H : HeapM} (C : H.Cls) (v k x : V) : (H.put v k x).Cls := C.same (kind_put H v k x) (items_put H v k x)
theorem cls_empty : (⟨[], 0⟩ : HeapM).Cls := by
  have : ∀ v, (⟨[], 0⟩ : HeapM).isClass v = false := fun v => by
    unfold HeapM.isClass HeapM.kind HeapM.of; split <;> simp [getL]
  exact ⟨fun v h => by rw [this] at h; simp at h, fun v h => by rw [this] at h; simp at h, fun v h => by rw [this] at h; simp at h⟩
/-- Another object is made. -/
theorem HeapM.Cls.add {H : HeapM} (C : H.Cls) {N : Nat} (G : H.Good N) (o : ObjM)
    (ho : o.kind = 5 → (∀ x ∈ o.items, H.isClass x = true ∧ x = x.asRef) ∧ (∀ x ∈ o.items, ∀ y ∈ H.items x, y ∈ o.items) ∧ o.items.Nodup) : (H.add o).Cls := by
  have old : ∀ v, ¬ (v.kind = 4 ∧ v.n = H.last + 1) → (H.add o).isClass v = H.isClass v ∧ (H.add o).items v = H.items v := fun v hv => by
    unfold HeapM.isClass
    rw [kind_add G, items_add G, if_neg hv, if_neg hv]; exact ⟨rfl, rfl⟩
  have cls : ∀ x, H.isClass x = true → ¬ (x.kind = 4 ∧ x.n = H.last + 1) := fun x hx => by have := class_le G hx; omega
  refine ⟨fun v hv x hx => ?_, fun v hv x hx y hy => ?_, fun v hv => ?_⟩
  · by_cases h : v.kind = 4 ∧ v.n = H.last + 1
    · rw [items_add G, if_pos h] at hx
      have hk : o.kind = 5 := by unfold HeapM.isClass at hv; rw [kind_add G, if_pos h] at hv; simpa using hv
      have := (ho hk).1 x hx
      have h2 := class_le G this.1
      exact ⟨class_add G o this.1, this.2, by omega⟩
    · rw [(old v h).1] at hv
      rw [(old v h).2] at hx
      have := C.items v hv x hx
      exact ⟨class_add G o this.1, this.2⟩
  · by_cases h : v.kind = 4 ∧ v.n = H.last + 1
    · rw [items_add G, if_pos h] at hx ⊢
      have hk : o.kind = 5 := by unfold HeapM.isClass at hv; rw [kind_add G, if_pos h] at hv; simpa using hv
      have h1 := (ho hk).1 x hx
      rw [(old x (cls x h1.1)).2] at hy
      exact (ho hk).2.1 x hx y hy
    · rw [(old v h).1] at hv
      rw [(old v h).2] at hx ⊢
      have h1 := C.items v hv x hx
      rw [(old x (cls x h1.1)).2] at hy
      exact C.tr v hv x hx y hy
  · by_cases h : v.kind = 4 ∧ v.n = H.last + 1
    · rw [items_add G, if_pos h]
      have hk : o.kind = 5 := by unfold HeapM.isClass at hv; rw [kind_add G, if_pos h] at hv; simpa using hv
      exact (ho hk).2.2
    · rw [(old v h).1] at hv
      rw [(old v h).2]
      exact C.nd v hv
theorem refN_of {x : V} (h : x = x.asRef) : refN x.n = x := by rw [refN_ok x.hn]; exact h.symm
/-- The items of a class that is made. -/
theorem HeapM.Cls.c3 {H : HeapM} (C : H.Cls) {N : Nat} (G : H.Good N) {bases : List V} (hb : ∀ b ∈ bases, b = b.asRef) {l : List Int} (h : H.c3 bases = some l) :
    (∀ x, x ∈ l.map refN ↔ ∃ b ∈ bases, x ∈ H.order b) ∧ (l.map refN).Nodup ∧ bases.all H.isClass = true ∧ mergeM (bases.map H.ordN ++ [bases.map (·.n)]) = some l := by
  unfold HeapM.c3 at h
  by_cases hc : bases.all H.isClass = true
  · rw [if_pos hc] at h
    have hcl := List.all_eq_true.1 hc
    have back : ∀ n ∈ l, ∃ b ∈ bases, ∃ x ∈ H.order b, x.n = n := by
      intro n hn
      obtain ⟨r, hr, hnr⟩ := (mem_merge _ l h n).1 hn
      rcases List.mem_append.1 hr with h1 | h1
      · obtain ⟨b, hb1, rfl⟩ := List.mem_map.1 h1
        unfold HeapM.ordN at hnr
        obtain ⟨x, hx, e⟩ := List.mem_map.1 hnr
        exact ⟨b, hb1, x, hx, e⟩
      · simp only [List.mem_singleton] at h1
        subst h1
        obtain ⟨b, hb1, rfl⟩ := List.mem_map.1 hnr
        exact ⟨b, hb1, b.asRef, by rw [C.order (hcl b hb1)]; simp, rfl⟩
    refine ⟨fun x => ⟨fun hx => ?_, fun ⟨b, hb1, hx⟩ => ?_⟩, ?_, hc, h⟩
    · obtain ⟨n, hn, rfl⟩ := List.mem_map.1 hx
      obtain ⟨b, hb1, y, hy, rfl⟩ := back n hn
      rw [refN_of (C.order_mem hy).2.2.1]
      exact ⟨b, hb1, hy⟩
    · refine List.mem_map.2 ⟨x.n, ?_, refN_of (C.order_mem hx).2.2.1⟩
      refine (mem_merge _ l h x.n).2 ⟨H.ordN b, List.mem_append_left _ (List.mem_map_of_mem hb1), ?_⟩
      unfold HeapM.ordN
      exact List.mem_map_of_mem hx
    · have hnd := merge_nodup _ l h
      rw [List.nodup_iff_pairwise_ne, List.pairwise_map]
      rw [List.nodup_iff_pairwise_ne] at hnd
      refine hnd.imp_of_mem fun {a b} ha hb1 hab e => hab ?_
      obtain ⟨b1, h1, y1, hy1, rfl⟩ := back a ha
      obtain ⟨b2, h2, y2, hy2, rfl⟩ := back b hb1
      rw [refN_of (C.order_mem hy1).2.2.1, refN_of (C.order_mem hy2).2.2.1] at e
      rw [e]
  · rw [if_neg hc] at h; simp at h
/-- A class is made: what it is made of. -/
theorem mkClass_some {H : HeapM} {s : ByteArray} {hs : s.size ≤ maxLen} {bases : List V} {space : V} {H' : HeapM} (h : H.mkClass s hs bases space = some H') : ∃ l, H.c3 bases = some l ∧ H.kind space = 3 ∧ H' = H.add (classO s hs l (H.pairs space)) := by
  unfold HeapM.mkClass at h
  cases hc : H.c3 bases with
  | none => rw [hc] at h; simp at h
  | some l =>
    rw [hc] at h
    simp only at h
    by_cases hk : H.kind space = 3
    · rw [if_pos hk] at h
      exact ⟨l, rfl, hk, (Option.some.inj h).symm⟩
    · rw [if_neg hk] at h; simp at h
theorem HeapM.Cls.made {H : HeapM} (C : H.Cls) {N : Nat} (G : H.Good N) {s : ByteArray} {hs : s.size ≤ maxLen} {bases : List V} (hb : ∀ b ∈ bases, b = b.asRef) {l : List Int} (h : H.c3 bases = some l) (P : List (V × V)) : (H.add (classO s hs l P)).Cls := by
  obtain ⟨h1, h2, h3, -⟩ := C.c3 G hb h
  refine C.add G _ fun _ => ⟨fun x hx => ?_, fun x hx y hy => ?_, h2⟩
  · obtain ⟨b, hb1, hx1⟩ := (h1 x).1 hx
    have := C.order_mem hx1
    exact ⟨this.2.1, this.2.2.1⟩
  · obtain ⟨b, hb1, hx1⟩ := (h1 x).1 hx
    have := C.order_mem hx1
    refine (h1 y).2 ⟨b, hb1, C.sub hx1 y ?_⟩
    rw [C.order this.2.1]
    exact List.mem_cons_of_mem _ hy
theorem nodup_upto {l : List Int} (h : l.Nodup) {L : Int} (hb : ∀ n ∈ l, 1 ≤ n ∧ n ≤ L) : l.length ≤ L.toNat := by
  have := List.Nodup.length_le_of_subset h (l₂ := (List.range L.toNat).map fun (k : Nat) => (k : Int) + 1) (fun n hn => List.mem_map.2 ⟨(n - 1).toNat, by simp; have := hb n hn; omega, by have := hb n hn; omega⟩)
  simpa using this
theorem HeapM.c3_len {H : HeapM} {N : Nat} (G : H.Good N) {bases : List V} {l : List Int} (h : H.c3 bases = some l) : l.length ≤ H.last.toNat := by
  unfold HeapM.c3 at h
  by_cases hc : bases.all H.isClass = true
  · rw [if_pos hc] at h
    exact nodup_upto (merge_nodup _ l h) (HeapM.c3_pos G hc h)
  · rw [if_neg hc] at h; simp at h
theorem HeapM.Fit.made {H : HeapM} {N M : Nat} (F : H.Fit N) {s : ByteArray} {hs : s.size ≤ maxLen} {bases : List V} {l : List Int} (h : H.c3 bases = some l) (space : V) (hM : N + H.last.toNat + (H.pairs space).length + 2 ≤ M) : (H.add (classO s hs l (H.pairs space))).Fit M :=
  ⟨(F.G.add _).more (by have := HeapM.c3_len F.G h; simp [classO, ObjM.vals]; omega), fun p hp' => by
    rcases List.mem_append.1 hp' with h1 | h1
    · exact F.K p h1
    · simp at h1; subst h1; exact ⟨by show (1 : Int) ≤ 5; decide, by show (5 : Int) ≤ 12; decide⟩, fun p hp' => by
    rcases List.mem_append.1 hp' with h1 | h1
    · exact F.P p h1
    · simp at h1; subst h1; exact F.pairs space⟩
theorem HeapM.Fit.addP {H : HeapM} {N M : Nat} (F : H.Fit N) (o : ObjM) (hk : 1 ≤ o.kind ∧ o.kind ≤ 12) (hp : o.pairs = []) (hM : N + o.items.length + 2 ≤ M) : (H.add o).Fit M := (F.add o hk hp).more hM
end Go.Proofs.YtobcnffjfclolaaDoor
/- The sixteen low bits of an int; one of some values. -/
namespace Go.Proofs.YtobcnffjfclolaaDoor
set_option linter.unusedSimpArgs false
open Go.RowKit
set_option linter.unusedVariables false
end Go.Proofs.YtobcnffjfclolaaDoor
/- The classes that ch 14's laws are about, plainly. -/
namespace Go.Proofs.YtobcnffjfclolaaDoor
set_option linter.unusedSimpArgs false
open Go.RowKit
set_option linter.unusedVariables false
def dictO : ObjM := ⟨3, ⟨#[]⟩, 0, [], [], by decide, by decide, by decide⟩
/-- What the classes' pairs are, and who has items. -/
structure HeapM.Plain (H : HeapM) : Prop where
  prs : ∀ p ∈ H.objs, p.2.pairs.length ≤ 4 ∧ ∀ q ∈ p.2.pairs, q.2.kind = 2
  its : ∀ p ∈ H.objs, p.2.kind ≠ 5 → p.2.items = []
/-- The classes so far. -/
structure MInv (H : HeapM) (out : List V) (i : Nat) : Prop where
  fit : H.Fit (60 * i)
  cls : H.Cls
  last : 0 ≤ H.last ∧ H.last ≤ 2 * i
  mem : ∀ c ∈ out, H.isClass c = true ∧ c = c.asRef
  len : out.length ≤ i
  pl : H.Plain
/-- .. and a space, with some of its pairs. -/
structure MMid (H : HeapM) (out : List V) (i k : Nat) (sp : V) : Prop where
  fit : H.Fit (60 * i + 2 + k)
  cls : H.Cls
  last : 0 ≤ H.last ∧ H.last ≤ 2 * i + 1
  mem : ∀ c ∈ out, H.isClass c = true ∧ c = c.asRef
  len : out.length ≤ i
  pl : H.Plain
  kind : H.kind sp = 3
  ref : sp = sp.asRef
  spp : (H.pairs sp).length ≤ k
theorem MInv.dict {H : HeapM} {out : List V} {i : Nat} (M : MInv H out i) (hn : okI (H.last + 1)) : MMid (H.add dictO) out i 0 (V.ref (H.last + 1) hn) := by
  have hl := M.last
  refine ⟨M.fit.addP dictO (by decide) rfl (by simp [dictO]), M.cls.add M.fit.G dictO (fun h => by exact absurd h (by decide)), ⟨by show 0 ≤ H.last + 1; omega, by show H.last + 1 ≤ _; omega⟩, fun c hc => ⟨class_add M.fit.G _ (M.mem c hc).1, (M.mem c hc).2⟩, M.len, ⟨fun p hp => ?_, fun p hp => ?_⟩, ?_, rfl, ?_⟩
  · rcases List.mem_append.1 hp with h | h
    · exact M.pl.prs p h
    · simp at h; subst h; simp [dictO]
  · rcases List.mem_append.1 hp with h | h
    · exact M.pl.its p h
    · simp at h; subst h; intro _; rfl
  · rw [kind_add M.fit.G, if_pos ⟨rfl, rfl⟩]; rfl
  · rw [pairs_add M.fit.G, if_pos ⟨rfl, rfl⟩]; exact Nat.le_refl 0
theorem MInv.more {H : HeapM} {out : List V} {i j : Nat} (M : MInv H out i) (h : i ≤ j) : MInv H out j :=
  ⟨M.fit.more (by omega), M.cls, by have := M.last; omega, M.mem, by have := M.len; omega, M.pl⟩
end Go.Proofs.YtobcnffjfclolaaDoor
