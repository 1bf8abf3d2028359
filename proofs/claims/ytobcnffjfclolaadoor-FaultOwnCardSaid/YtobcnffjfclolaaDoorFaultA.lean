import Derived.Test.YtobcnffjfclolaaDoorClsM
import Derived.Test.YtobcnffjfclolaaDoorObjS
/- The exceptions' table, and what Boot makes of a heap: plainly. -/
namespace Go.Proofs.YtobcnffjfclolaaDoor
set_option linter.unusedSimpArgs false
open Go.RowKit
set_option linter.unusedVariables false
def namesF : List ByteArray := [⟨#[69, 120, 99, 101, 112, 116, 105, 111, 110]⟩, ⟨#[76, 111, 111, 107, 117, 112, 69, 114, 114, 111, 114]⟩, ⟨#[73, 110, 100, 101, 120, 69, 114, 114, 111, 114]⟩, ⟨#[75, 101, 121, 69, 114, 114, 111, 114]⟩, ⟨#[65, 114, 105, 116, 104, 109, 101, 116, 105, 99, 69, 114, 114, 111, 114]⟩, ⟨#[90, 101, 114, 111, 68, 105, 118, 105, 115, 105, 111, 110, 69, 114, 114, 111, 114]⟩, ⟨#[79, 118, 101, 114, 102, 108, 111, 119, 69, 114, 114, 111, 114]⟩, ⟨#[84, 121, 112, 101, 69, 114, 114, 111, 114]⟩, ⟨#[86, 97, 108, 117, 101, 69, 114, 114, 111, 114]⟩, ⟨#[78, 97, 109, 101, 69, 114, 114, 111, 114]⟩, ⟨#[85, 110, 98, 111, 117, 110, 100, 76, 111, 99, 97, 108, 69, 114, 114, 111, 114]⟩, ⟨#[65, 116, 116, 114, 105, 98, 117, 116, 101, 69, 114, 114, 111, 114]⟩, ⟨#[83, 116, 111, 112, 73, 116, 101, 114, 97, 116, 105, 111, 110]⟩, ⟨#[82, 117, 110, 116, 105, 109, 101, 69, 114, 114, 111, 114]⟩, ⟨#[82, 101, 99, 117, 114, 115, 105, 111, 110, 69, 114, 114, 111, 114]⟩, ⟨#[65, 115, 115, 101, 114, 116, 105, 111, 110, 69, 114, 114, 111, 114]⟩, ⟨#[77, 101, 109, 111, 114, 121, 69, 114, 114, 111, 114]⟩]
/-- The number of one's base. -/
def parF : List (Option Nat) := [none, some 0, some 1, some 1, some 0, some 4, some 4, some 0, some 0, some 0, some 9, some 0, some 0, some 0, some 13, some 0, some 0]
/-- All that one comes of. -/
def ancL : List (List Nat) := [[], [0], [1, 0], [1, 0], [0], [4, 0], [4, 0], [0], [0], [0], [9, 0], [0], [0], [0], [13, 0], [0], [0]]
def nameF (k : Nat) : ByteArray := namesF[k]?.getD ⟨#[]⟩
def ancF (k : Nat) : List Nat := ancL[k]?.getD []
def baseF (k : Nat) : ByteArray := match (parF[k]?.getD none) with | none => ⟨#[]⟩ | some j => nameF j
theorem nameF_small : ∀ k, k < 17 → (nameF k).size ≤ 40 := by decide +kernel
theorem nameF_le (k : Nat) : (nameF k).size ≤ maxLen := by
  by_cases h : k < 17
  · exact Nat.le_trans (nameF_small k h) (by decide)
  · unfold nameF
    rw [List.getElem?_eq_none (by show 17 ≤ k; omega)]
    decide
theorem nameF_inj : ∀ i, i < 17 → ∀ j, j < 17 → nameF i = nameF j → i = j := by decide +kernel
theorem par_lt : ∀ k, k < 17 → ∀ j, parF[k]?.getD none = some j → j < k := by decide +kernel
theorem anc_none : ∀ k, k < 17 → parF[k]?.getD none = none → ancF k = [] := by decide +kernel
theorem anc_some : ∀ k, k < 17 → ∀ j, j < k → parF[k]?.getD none = some j → ancF k = j :: ancF j := by decide +kernel
theorem anc_lt : ∀ k, k < 17 → ∀ j ∈ ancF k, j < k := by decide +kernel
theorem anc_nd : ∀ k, k < 17 → (k :: ancF k).Nodup := by decide +kernel
theorem base_size : ∀ k, k < 17 → ((baseF k).size = 0 ↔ parF[k]?.getD none = none) := by decide +kernel
def keyF (k : Nat) : V := keyS (nameF k) (nameF_le k)
theorem keyF_inj {i j : Nat} (hi : i < 17) (hj : j < 17) (h : keyF i = keyF j) : i = j := nameF_inj i hi j hj (congrArg V.s h)
/-- The class of a name. -/
noncomputable def excO (L : Int) (k : Nat) : ObjM := classO (nameF k) (nameF_le k) ((ancF k).map fun (j : Nat) => L + 2 + (j : Int)) []
/-- A heap with the first k of the classes (and the space). -/
noncomputable def clsAt (H : HeapM) (k : Nat) : HeapM := ⟨(H.add dictO).objs ++ (List.range k).map (fun (j : Nat) => (H.last + 2 + (j : Int), excO H.last j)), H.last + 1 + (k : Int)⟩
theorem clsAt_zero (H : HeapM) : clsAt H 0 = H.add dictO := by
  unfold clsAt HeapM.add
  simp
theorem clsAt_succ (H : HeapM) (k : Nat) : clsAt H (k + 1) = (clsAt H k).add (excO H.last k) := by
  unfold clsAt
  rw [List.range_succ, List.map_append, ← List.append_assoc]
  show HeapM.mk _ _ = HeapM.mk _ _
  have e1 : H.last + 1 + ((k + 1 : Nat) : Int) = H.last + 1 + (k : Int) + 1 := by omega
  have e2 : H.last + 2 + (k : Int) = H.last + 1 + (k : Int) + 1 := by omega
  rw [e1, List.map_cons, List.map_nil, e2]
theorem merge_one (x : Int) (T : List Int) (hn : (x :: T).Nodup) : mergeM [x :: T, [x]] = some (x :: T) := by
  have tl : ∀ T : List Int, T.Nodup → mergeM [T, []] = some T := by
    intro T
    induction T with
    | nil => intro _; rfl
    | cons a T ih =>
      intro h
      have hp : pickM [a :: T, []] = some a := by
        have h2 : a ∉ T := (List.nodup_cons.1 h).1
        simp [pickM, headsM, behindM, h2]
      rw [mergeM_step hp]
      have e : popM [a :: T, []] a = [T, []] := by simp [popM, popR]
      rw [e, ih (List.nodup_cons.1 h).2]; rfl
  have hp : pickM [x :: T, [x]] = some x := by
    have h2 : x ∉ T := (List.nodup_cons.1 hn).1
    simp [pickM, headsM, behindM, h2]
  rw [mergeM_step hp]
  have e : popM [x :: T, [x]] x = [T, []] := by simp [popM, popR]
  rw [e, tl T (List.nodup_cons.1 hn).2]; rfl
/-- One base. -/
theorem HeapM.c3_one {H : HeapM} (C : H.Cls) {v : V} (h : H.isClass v = true) : H.c3 [v] = some (H.ordN v) := by
  unfold HeapM.c3
  rw [if_pos (by simp [h])]
  show mergeM [H.ordN v, [v.n]] = _
  have e : H.ordN v = v.n :: (H.items v).map (·.n) := by
    unfold HeapM.ordN
    rw [C.order h]; rfl
  rw [e]
  refine merge_one _ _ ?_
  have h1 := C.order_nd v
  rw [C.order h] at h1
  rw [List.nodup_cons]
  have hi := C.items v h
  refine ⟨fun hm => ?_, ?_⟩
  · obtain ⟨x, hx, e⟩ := List.mem_map.1 hm
    have := (hi x hx).2.2
    omega
  · have h2 := (List.nodup_cons.1 h1).2
    rw [List.nodup_iff_pairwise_ne, List.pairwise_map]
    rw [List.nodup_iff_pairwise_ne] at h2
    refine h2.imp_of_mem fun {a b} ha hb hab e => hab ?_
    exact asRef_eq (hi a ha).2.1 (hi b hb).2.1 e
/-- What the classes of the table are. -/
structure ClsIn (H : HeapM) (L : Int) (k : Nat) : Prop where
  of : ∀ j, j < k → ∀ hn : okI (L + 2 + (j : Int)), H.of (V.ref (L + 2 + (j : Int)) hn) = some (excO L j)
theorem map_n (l : List Nat) (L : Int) (hL : ∀ j ∈ l, okI (L + 2 + (j : Int))) : (l.map fun (j : Nat) => refN (L + 2 + (j : Int))).map (·.n) = l.map fun (j : Nat) => L + 2 + (j : Int) := by
  induction l with
  | nil => rfl
  | cons a l ih =>
    rw [List.map_cons, List.map_cons, List.map_cons, ih fun j hj => hL j (by simp [hj]), refN_ok (hL a (by simp))]; rfl
theorem map_refN (l : List Nat) (L : Int) : (l.map fun (j : Nat) => L + 2 + (j : Int)).map refN = l.map fun (j : Nat) => refN (L + 2 + (j : Int)) := by
  induction l with
  | nil => rfl
  | cons a l ih => rw [List.map_cons, List.map_cons, List.map_cons, ih]
/-- Boot's classes, step by step. -/
structure BootAt (H : HeapM) (N k : Nat) : Prop where
  fit : (clsAt H k).Fit (N + 2 + 20 * k)
  cls : (clsAt H k).Cls
  of : ∀ j, j < k → ∀ hn : okI (H.last + 2 + (j : Int)), (clsAt H k).of (V.ref (H.last + 2 + (j : Int)) hn) = some (excO H.last j)
  sp : ∀ hn : okI (H.last + 1), (clsAt H k).of (V.ref (H.last + 1) hn) = some dictO
  old : ∀ v o, H.of v = some o → (clsAt H k).of v = some o
theorem BootAt.zero {H : HeapM} {N : Nat} (F : H.Fit N) (C : H.Cls) : BootAt H N 0 := by
  rw [show BootAt H N 0 ↔ BootAt H N 0 from Iff.rfl]
  refine ⟨?_, ?_, fun j hj => by omega, fun hn => ?_, fun v o h => ?_⟩
  · rw [clsAt_zero]; exact F.addP dictO (by decide) rfl (by simp [dictO])
  · rw [clsAt_zero]; exact C.add F.G dictO (fun h => by exact absurd h (by decide))
  · rw [clsAt_zero, of_add F.G, if_pos ⟨rfl, rfl⟩]
  · rw [clsAt_zero]; exact add_of_old F.G _ h
/-- The bases of one: none, or one. -/
noncomputable def basesF (L : Int) (k : Nat) : List V := match (parF[k]?.getD none) with | none => [] | some j => [refN (L + 2 + (j : Int))]
theorem BootAt.c3 {H : HeapM} {N k : Nat} (B : BootAt H N k) (hk : k < 17) (hL : 0 ≤ H.last ∧ H.last ≤ 1000000) : (clsAt H k).c3 (basesF H.last k) = some ((ancF k).map fun (j : Nat) => H.last + 2 + (j : Int)) := by
  unfold basesF
  cases hp : parF[k]?.getD none with
  | none =>
    rw [anc_none k hk hp]; rfl
  | some j =>
    have hj := par_lt k hk j hp
    have hn : okI (H.last + 2 + (j : Int)) := okI_of ⟨by omega, by omega⟩
    have hof := B.of j hj hn
    rw [anc_some k hk j hj hp]
    show (clsAt H k).c3 [refN (H.last + 2 + (j : Int))] = _
    rw [refN_ok hn]
    have hc : (clsAt H k).isClass (V.ref (H.last + 2 + (j : Int)) hn) = true := by
      unfold HeapM.isClass HeapM.kind; rw [hof]; rfl
    rw [HeapM.c3_one B.cls hc]
    unfold HeapM.ordN
    rw [B.cls.order hc]
    have hi : (clsAt H k).items (V.ref (H.last + 2 + (j : Int)) hn) = ((ancF j).map fun (j : Nat) => refN (H.last + 2 + (j : Int))) := by
      unfold HeapM.items; rw [hof]
      show ((ancF j).map fun (j : Nat) => H.last + 2 + (j : Int)).map refN = _
      exact map_refN _ _
    rw [hi, List.map_cons, map_n _ _ (fun i hi => okI_of ⟨by omega, by have := anc_lt j (by omega) i hi; omega⟩)]
    rfl
theorem BootAt.class {H : HeapM} {N k : Nat} (B : BootAt H N k) (hk : k < 17) (hL : 0 ≤ H.last ∧ H.last ≤ 1000000) (hn : okI (H.last + 1)) : (clsAt H k).mkClass (nameF k) (nameF_le k) (basesF H.last k) (V.ref (H.last + 1) hn) = some (clsAt H (k + 1)) := by
  have hs := B.sp hn
  rw [mkClass_of (B.c3 hk hL) (by unfold HeapM.kind; rw [hs]; rfl)]
  have hp : (clsAt H k).pairs (V.ref (H.last + 1) hn) = [] := by unfold HeapM.pairs; rw [hs]; rfl
  rw [hp, clsAt_succ]; rfl
theorem basesF_ref (L : Int) (k : Nat) (hk : k < 17) (hL : 0 ≤ L ∧ L ≤ 1000000) : ∀ b ∈ basesF L k, b = b.asRef := by
  unfold basesF
  cases hp : parF[k]?.getD none with
  | none => simp
  | some j =>
    have hj := par_lt k hk j hp
    intro b hb
    simp only [List.mem_singleton] at hb
    subst hb
    rw [refN_ok (okI_of ⟨by omega, by omega⟩)]; rfl
theorem BootAt.next {H : HeapM} {N k : Nat} (B : BootAt H N k) (hk : k < 17) (hL : 0 ≤ H.last ∧ H.last ≤ 1000000) : BootAt H N (k + 1) := by
  have hn1 : okI (H.last + 1) := okI_of ⟨by omega, by omega⟩
  have hs := B.sp hn1
  have hp : (clsAt H k).pairs (V.ref (H.last + 1) hn1) = [] := by unfold HeapM.pairs; rw [hs]; rfl
  have hlast : (clsAt H k).last = H.last + 1 + (k : Int) := rfl
  have hex : excO H.last k = classO (nameF k) (nameF_le k) ((ancF k).map fun (j : Nat) => H.last + 2 + (j : Int)) [] := rfl
  refine ⟨?_, ?_, fun j hj hn => ?_, fun hn => ?_, fun v o h => ?_⟩
  · rw [clsAt_succ]
    have hl : (excO H.last k).items.length ≤ 17 := by
      rw [hex]
      show (((ancF k).map _).map _).length ≤ 17
      rw [List.length_map, List.length_map]
      have := (List.nodup_cons.1 (anc_nd k hk)).2
      have h2 := List.Nodup.length_le_of_subset this (l₂ := List.range 17) (fun j hj => List.mem_range.2 (by have := anc_lt k hk j hj; omega))
      simpa using h2
    refine B.fit.addP _ ⟨by show (1 : Int) ≤ 5; decide, by show (5 : Int) ≤ 12; decide⟩ rfl ?_
    omega
  · rw [clsAt_succ, hex]
    exact B.cls.made B.fit.G (basesF_ref H.last k hk hL) (B.c3 hk hL) []
  · rw [clsAt_succ, of_add B.fit.G]
    by_cases e : j = k
    · subst e
      rw [if_pos ⟨rfl, by show H.last + 2 + (j : Int) = (clsAt H j).last + 1; rw [hlast]; omega⟩]
    · rw [if_neg (by rintro ⟨_, h⟩; rw [hlast] at h; have h' : H.last + 2 + (j : Int) = H.last + 1 + (k : Int) + 1 := h; omega)]
      exact B.of j (by omega) hn
  · rw [clsAt_succ, of_add B.fit.G, if_neg (by rintro ⟨_, h⟩; rw [hlast] at h; have h' : H.last + 1 = H.last + 1 + (k : Int) + 1 := h; omega)]
    exact B.sp hn
  · rw [clsAt_succ]; exact add_of_old B.fit.G _ (B.old v o h)
theorem BootAt.all {H : HeapM} {N : Nat} (F : H.Fit N) (C : H.Cls) (hL : 0 ≤ H.last ∧ H.last ≤ 1000000) : ∀ k, k ≤ 17 → BootAt H N k := by
  intro k
  induction k with
  | zero => intro _; exact BootAt.zero F C
  | succ k ih => intro h; exact (ih (by omega)).next (by omega) hL
theorem of_drop (H : HeapM) (n : Int) (v : V) : (H.drop n).of v = if v.n = n then none else H.of v := by
  unfold HeapM.of HeapM.drop
  by_cases hk : v.kind = 4
  · rw [if_pos hk, if_pos hk]
    exact getL_delL _ _ _
  · rw [if_neg hk, if_neg hk]; simp
theorem mem_drop {H : HeapM} {n : Int} {p : Int × ObjM} (h : p ∈ (H.drop n).objs) : p ∈ H.objs ∧ p.1 ≠ n := by
  have := List.mem_filter.1 h
  exact ⟨this.1, by simpa using this.2⟩
theorem HeapM.Fit.drop {H : HeapM} {N : Nat} (F : H.Fit N) (n : Int) : (H.drop n).Fit N :=
  ⟨F.G.filter (fun p => !decide (p.1 = n)) rfl rfl, fun p hp => F.K p (mem_drop hp).1, fun p hp => F.P p (mem_drop hp).1⟩
theorem HeapM.Cls.drop {H : HeapM} (C : H.Cls) (n : Int) (hn : ∀ v, H.isClass v = true → v.n ≠ n) : (H.drop n).Cls := by
  have key : ∀ v, v.n ≠ n → (H.drop n).of v = H.of v := fun v hv => by rw [of_drop, if_neg hv]
  have back : ∀ v, (H.drop n).isClass v = true → H.isClass v = true ∧ v.n ≠ n := fun v hv => by
    by_cases e : v.n = n
    · unfold HeapM.isClass HeapM.kind at hv
      rw [of_drop, if_pos e] at hv; simp at hv
    · refine ⟨?_, e⟩
      unfold HeapM.isClass HeapM.kind at hv ⊢
      rw [key v e] at hv; exact hv
  have fwd : ∀ v, H.isClass v = true → (H.drop n).isClass v = true := fun v hv => by
    unfold HeapM.isClass HeapM.kind at hv ⊢
    rw [key v (hn v hv)]; exact hv
  have its : ∀ v, v.n ≠ n → (H.drop n).items v = H.items v := fun v hv => by unfold HeapM.items; rw [key v hv]
  refine ⟨fun v hv x hx => ?_, fun v hv x hx y hy => ?_, fun v hv => ?_⟩
  · obtain ⟨h1, h2⟩ := back v hv
    rw [its v h2] at hx
    have := C.items v h1 x hx
    exact ⟨fwd x this.1, this.2⟩
  · obtain ⟨h1, h2⟩ := back v hv
    rw [its v h2] at hx ⊢
    have := C.items v h1 x hx
    rw [its x (hn x this.1)] at hy
    exact C.tr v h1 x hx y hy
  · obtain ⟨h1, h2⟩ := back v hv
    rw [its v h2]; exact C.nd v h1
theorem excName_le : (⟨#[101, 120, 99, 101, 112, 116, 105, 111, 110, 115]⟩ : ByteArray).size ≤ maxLen := by decide
noncomputable def pairsF (L : Int) : List (V × V) := (List.range 17).map fun (j : Nat) => (keyF j, refN (L + 2 + (j : Int)))
def modN : ObjM := ⟨12, ⟨#[101, 120, 99, 101, 112, 116, 105, 111, 110, 115]⟩, 0, [], [], by decide, by decide, excName_le⟩
/-- The object that Boot makes, with the first k of its pairs. -/
noncomputable def modO (L : Int) (k : Nat) : ObjM := { modN with pairs := (pairsF L).take k }
theorem pairsF_len (L : Int) : (pairsF L).length = 17 := by simp [pairsF]
theorem pairsF_keys (L : Int) : (pairsF L).map (·.1) = (List.range 17).map keyF := by
  unfold pairsF
  rw [List.map_map]; rfl
theorem pairsF_nd (L : Int) : ((pairsF L).map (·.1)).Nodup := by
  rw [pairsF_keys, List.nodup_iff_pairwise_ne, List.pairwise_map]
  refine (List.nodup_iff_pairwise_ne.1 List.nodup_range).imp_of_mem fun {a b} ha hb hab e => hab ?_
  exact keyF_inj (List.mem_range.1 ha) (List.mem_range.1 hb) e
theorem pairsF_ok (L : Int) : PairsOk (pairsF L) := by
  refine ⟨pairsF_nd L, fun q hq => ?_, by rw [pairsF_len]; omega⟩
  unfold pairsF at hq
  obtain ⟨j, _, rfl⟩ := List.mem_map.1 hq
  rfl
theorem pairsF_get (L : Int) {k : Nat} (hk : k < 17) : (pairsF L)[k]? = some (keyF k, refN (L + 2 + (k : Int))) := by
  unfold pairsF
  rw [List.getElem?_map, List.getElem?_range hk]; rfl
/-- .. as it lies while its pairs are put. -/
noncomputable def bootAt (H : HeapM) (k : Nat) : HeapM := (clsAt H 17).add (modO H.last k)
theorem bootAt_zero (H : HeapM) : bootAt H 0 = (clsAt H 17).add modN := by
  unfold bootAt modO
  rw [List.take_zero]; rfl
theorem clsAt_last (H : HeapM) (k : Nat) : (clsAt H k).last = H.last + 1 + (k : Int) := rfl
theorem bootAt_last (H : HeapM) (k : Nat) : (bootAt H k).last = H.last + 19 := by
  show (clsAt H 17).last + 1 = _
  rw [clsAt_last]; omega
theorem BootAt.put {H : HeapM} {N : Nat} (B : BootAt H N 17) {k : Nat} (hk : k < 17) (hn : okI (H.last + 19)) : (bootAt H k).put (V.ref (H.last + 19) hn) (keyF k) (refN (H.last + 2 + (k : Int))) = bootAt H (k + 1) := by
  have hl : (clsAt H 17).last + 1 = H.last + 19 := by rw [clsAt_last]; omega
  have hn' : okI ((clsAt H 17).last + 1) := by rw [hl]; exact hn
  have e : V.ref (H.last + 19) hn = V.ref ((clsAt H 17).last + 1) hn' := by simp only [hl]
  rw [e]
  have := add_put B.fit.G modN (pairsF_ok H.last) (pairsF_get H.last hk) hn'
  exact this
/-- What Boot makes of a heap. -/
noncomputable def bootM (H : HeapM) : HeapM := ⟨H.objs ++ ((List.range 17).map (fun (j : Nat) => (H.last + 2 + (j : Int), excO H.last j)) ++ [(H.last + 19, modO H.last 17)]), H.last + 19⟩
theorem bootM_free {H : HeapM} {N : Nat} (F : H.Fit N) : (bootAt H 17).freeAll [H.last + 1] = bootM H := by
  show (bootAt H 17).drop (H.last + 1) = _
  unfold HeapM.drop bootAt bootM
  have h1 : ((clsAt H 17).add (modO H.last 17)).last = H.last + 19 := bootAt_last H 17
  have h2 : delL ((clsAt H 17).add (modO H.last 17)).objs (H.last + 1) = H.objs ++ ((List.range 17).map (fun (j : Nat) => (H.last + 2 + (j : Int), excO H.last j)) ++ [(H.last + 19, modO H.last 17)]) := by
    show delL (((H.objs ++ [(H.last + 1, dictO)]) ++ (List.range 17).map (fun (j : Nat) => (H.last + 2 + (j : Int), excO H.last j))) ++ [((clsAt H 17).last + 1, modO H.last 17)]) (H.last + 1) = _
    have e19 : (clsAt H 17).last + 1 = H.last + 19 := by rw [clsAt_last]; omega
    rw [e19]
    unfold delL
    rw [List.filter_append, List.filter_append, List.filter_append]
    have f1 : H.objs.filter (fun p => !decide (p.1 = H.last + 1)) = H.objs := List.filter_eq_self.2 fun p hp => by
      have := F.G.ok.pos p hp
      simp; omega
    have f2 : [(H.last + 1, dictO)].filter (fun p => !decide (p.1 = H.last + 1)) = [] := by simp
    have f3 : ((List.range 17).map (fun (j : Nat) => (H.last + 2 + (j : Int), excO H.last j))).filter (fun p => !decide (p.1 = H.last + 1)) = (List.range 17).map (fun (j : Nat) => (H.last + 2 + (j : Int), excO H.last j)) := List.filter_eq_self.2 fun p hp => by
      obtain ⟨j, _, rfl⟩ := List.mem_map.1 hp
      simp; omega
    have f4 : [(H.last + 19, modO H.last 17)].filter (fun p => !decide (p.1 = H.last + 1)) = [(H.last + 19, modO H.last 17)] := by
      rw [List.filter_cons_of_pos (by simp)]; rfl
    rw [f1, f2, f3, f4, List.append_nil, List.append_assoc]
  show HeapM.mk _ _ = HeapM.mk _ _
  rw [h1, h2]
/-- The table's classes, and the object that has them, as they lie in a heap. -/
structure BootIn (H : HeapM) (L : Int) : Prop where
  cls : ∀ (j : Nat), j < 17 → ∀ hn : okI (L + 2 + (j : Int)), H.of (V.ref (L + 2 + (j : Int)) hn) = some (excO L j)
  mod : ∀ hn : okI (L + 19), H.of (V.ref (L + 19) hn) = some (modO L 17)
theorem booted {H : HeapM} {N : Nat} (F : H.Fit N) (C : H.Cls) (hL : 0 ≤ H.last ∧ H.last ≤ 1000000) : (bootM H).Fit (N + 1100) ∧ (bootM H).Cls ∧ BootIn (bootM H) H.last ∧ (bootM H).last = H.last + 19 ∧ ∀ v o, H.of v = some o → (bootM H).of v = some o := by
  have B := BootAt.all F C hL 17 (Nat.le_refl _)
  have hn1 : okI (H.last + 1) := okI_of ⟨by omega, by omega⟩
  have hn19 : okI (H.last + 19) := okI_of ⟨by omega, by omega⟩
  have hl : (clsAt H 17).last + 1 = H.last + 19 := by rw [clsAt_last]; omega
  have F0 : (bootAt H 0).Fit (N + 2 + 20 * 17 + 2) := by
    rw [bootAt_zero]
    exact B.fit.addP modN (by decide) rfl (by simp [modN])
  have C0 : (bootAt H 0).Cls := by
    rw [bootAt_zero]
    exact B.cls.add B.fit.G modN (fun h => by exact absurd h (by decide))
  have FC : ∀ k, k ≤ 17 → (bootAt H k).Fit (N + 2 + 20 * 17 + 2 + k) ∧ (bootAt H k).Cls := by
    intro k
    induction k with
    | zero => intro _; exact ⟨F0, C0⟩
    | succ k ih =>
      intro h
      obtain ⟨h1, h2⟩ := ih (by omega)
      rw [← B.put (by omega) hn19]
      exact ⟨h1.put _ _ _, h2.put _ _ _⟩
  obtain ⟨F1, C1⟩ := FC 17 (Nat.le_refl _)
  have ofB : ∀ v, (bootAt H 17).of v = if v.kind = 4 ∧ v.n = H.last + 19 then some (modO H.last 17) else (clsAt H 17).of v := fun v => by
    have := of_add B.fit.G (modO H.last 17) v
    rw [hl] at this
    exact this
  have hof : ∀ v, v.n ≠ H.last + 1 → (bootM H).of v = (bootAt H 17).of v := fun v hv => by
    rw [← bootM_free F]
    show ((bootAt H 17).drop (H.last + 1)).of v = _
    rw [of_drop, if_neg hv]
  refine ⟨?_, ?_, ⟨fun j hj hn => ?_, fun hn => ?_⟩, rfl, fun v o h => ?_⟩
  · rw [← bootM_free F]
    exact (F1.drop _).more (by omega)
  · rw [← bootM_free F]
    refine C1.drop _ fun v hv e => ?_
    have hk : v.kind = 4 := by
      obtain ⟨o, ho, _⟩ := HeapM.isClass_of hv
      exact (HeapM.of_some ho).1
    have hsp := B.sp hn1
    unfold HeapM.isClass HeapM.kind at hv
    rw [ofB, if_neg (by omega)] at hv
    have e2 : (clsAt H 17).of v = some dictO := by
      rw [← hsp]
      unfold HeapM.of
      rw [if_pos hk, if_pos (show (V.ref (H.last + 1) hn1).kind = 4 from rfl), e]; rfl
    rw [e2] at hv
    exact absurd hv (by decide)
  · rw [hof _ (by show H.last + 2 + (j : Int) ≠ _; omega), ofB, if_neg (by rintro ⟨_, h⟩; have h' : H.last + 2 + (j : Int) = H.last + 19 := h; omega)]
    exact B.of j hj hn
  · rw [hof _ (by show H.last + 19 ≠ _; omega), ofB, if_pos ⟨rfl, rfl⟩]
  · have h1 := HeapM.of_some h
    have h2 := F.G.ok.pos _ (getL_mem h1.2)
    have h3 : v.n ≤ H.last := h2.2
    rw [hof v (by omega), ofB, if_neg (by omega)]
    exact B.old v o h
theorem BootIn.add {H : HeapM} {L : Int} {N : Nat} (B : BootIn H L) (G : H.Good N) (o : ObjM) : BootIn (H.add o) L :=
  ⟨fun j hj hn => add_of_old G o (B.cls j hj hn), fun hn => add_of_old G o (B.mod hn)⟩
/-- What Boot's object has. -/
theorem BootIn.get {H : HeapM} {L : Int} (B : BootIn H L) (hn : okI (L + 19)) {k : Nat} (hk : k < 17) : H.get (V.ref (L + 19) hn) (keyF k) = some (refN (L + 2 + (k : Int))) := by
  unfold HeapM.get HeapM.pairs
  rw [B.mod hn]
  show getL ((pairsF L).take 17) (keyF k) = _
  rw [List.take_of_length_le (by rw [pairsF_len]; omega)]
  exact getL_of_get (pairsF_nd L) (pairsF_get L hk)
end Go.Proofs.YtobcnffjfclolaaDoor
/- fault's functions, plainly. -/
namespace Go.Proofs.YtobcnffjfclolaaDoor
set_option linter.unusedSimpArgs false
open Go.RowKit
set_option linter.unusedVariables false
/-- The class of a name, as it lies in a boot's dict. -/
def HeapM.classF (H : HeapM) (boot : V) (s : ByteArray) (hs : s.size ≤ maxLen) : Option V := (H.get boot (keyS s hs)).filter fun c => decide (H.kind c = 5)
def HeapM.isClsF (H : HeapM) (boot v : V) : Bool := match H.classF boot (nameF 0) (nameF_le 0) with | some c => H.subM v c | none => false
def HeapM.isF (H : HeapM) (boot v : V) : Bool := match H.ofM v with | some c => H.isClsF boot c | none => false
def HeapM.candsF (H : HeapM) (c : V) : List V := if H.kind c = 2 then H.items c else [c]
def HeapM.hitF (H : HeapM) (boot v c : V) : Bool := H.isF boot v && H.subM ((H.ofM v).getD V.zero) c
/-- Does a handler match? none: it may be none. -/
def HeapM.matchF (H : HeapM) (boot v cl : V) : Option Bool := if (H.candsF cl).all (H.isClsF boot) = true then some ((H.candsF cl).any (H.hitF boot v)) else none
def tupleO (l : List V) : ObjM := ⟨2, ⟨#[]⟩, 0, l, [], by decide, by decide, by decide⟩
def argsS : ByteArray := ⟨#[97, 114, 103, 115]⟩
theorem argsS_le : argsS.size ≤ maxLen := by decide
def argsK : V := keyS argsS argsS_le
noncomputable def madeT (H : HeapM) (l : List V) : HeapM := H.add (tupleO l)
noncomputable def madeI (H : HeapM) (c : V) (l : List V) : HeapM := (madeT H l).add (instO ((madeT H l).name c) (HeapM.name_le _ c) c)
/-- What is made of what is raised. -/
noncomputable def HeapM.madeF (H : HeapM) (c : V) (l : List V) : HeapM := (madeI H c l).put (refN (H.last + 2)) argsK (refN (H.last + 1))
/-- Two heaps: all that there was is as it was. -/
structure Olds (H H' : HeapM) : Prop where
  of : ∀ v o, H.of v = some o → H'.of v = some o
theorem Olds.kind {H H' : HeapM} (K : Olds H H') {v : V} (h : (H.of v).isSome = true) : H'.kind v = H.kind v ∧ H'.items v = H.items v ∧ H'.name v = H.name v ∧ H'.pairs v = H.pairs v ∧ H'.isClass v = H.isClass v := by
  obtain ⟨o, ho⟩ := Option.isSome_iff_exists.1 h
  have h2 := K.of v o ho
  have hk : H'.kind v = H.kind v := by unfold HeapM.kind; rw [ho, h2]
  exact ⟨hk, by unfold HeapM.items; rw [ho, h2], by unfold HeapM.name; rw [ho, h2], by unfold HeapM.pairs; rw [ho, h2], by unfold HeapM.isClass; rw [hk]⟩
theorem class_some {H : HeapM} {v : V} (h : H.isClass v = true) : (H.of v).isSome = true := by
  obtain ⟨o, ho, _⟩ := HeapM.isClass_of h
  rw [ho]; rfl
theorem Olds.order {H H' : HeapM} (K : Olds H H') (C : H.Cls) (C' : H'.Cls) {v : V} (h : (H.of v).isSome = true) : H'.order v = H.order v := by
  cases hc : H.isClass v with
  | true =>
    have hc' : H'.isClass v = true := by rw [(K.kind h).2.2.2.2]; exact hc
    rw [C.order hc, C'.order hc', (K.kind h).2.1]
  | false =>
    have hc' : H'.isClass v = false := by rw [(K.kind h).2.2.2.2]; exact hc
    rw [order_no hc, order_no hc']
theorem Olds.sub {H H' : HeapM} (K : Olds H H') (C : H.Cls) (C' : H'.Cls) {v u : V} (hv : (H.of v).isSome = true) (hu : (H.of u).isSome = true) : H'.subM v u = H.subM v u := by
  unfold HeapM.subM
  rw [K.order C C' hv, (K.kind hu).2.2.2.2]
theorem Olds.trans {A B C : HeapM} (h : Olds A B) (k : Olds B C) : Olds A C := ⟨fun v o g => k.of v o (h.of v o g)⟩
theorem olds_add {H : HeapM} {N : Nat} (G : H.Good N) (o : ObjM) : Olds H (H.add o) := ⟨fun v ob h => add_of_old G o h⟩
theorem Olds.boot {H H' : HeapM} (K : Olds H H') {L : Int} (B : BootIn H L) : BootIn H' L := ⟨fun j hj hn => K.of _ _ (B.cls j hj hn), fun hn => K.of _ _ (B.mod hn)⟩
section
variable {H : HeapM} {L : Int} {N : Nat}
theorem BootIn.isClass (B : BootIn H L) {k : Nat} (hk : k < 17) (hn : okI (L + 2 + (k : Int))) : H.isClass (V.ref (L + 2 + (k : Int)) hn) = true := by
  unfold HeapM.isClass HeapM.kind
  rw [B.cls k hk hn]; rfl
theorem BootIn.class_ (B : BootIn H L) (hL : 0 ≤ L ∧ L ≤ 1000000) (hb : okI (L + 19)) {k : Nat} (hk : k < 17) (hs : (nameF k).size ≤ maxLen) : H.classF (V.ref (L + 19) hb) (nameF k) hs = some (refN (L + 2 + (k : Int))) := by
  have hn : okI (L + 2 + (k : Int)) := okI_of ⟨by omega, by omega⟩
  unfold HeapM.classF
  have := B.get hb hk
  unfold keyF at this
  rw [this, refN_ok hn]
  have hc := B.isClass hk hn
  unfold HeapM.isClass at hc
  simp only [Option.filter]
  rw [if_pos hc]
theorem BootIn.isCls (B : BootIn H L) (hL : 0 ≤ L ∧ L ≤ 1000000) (hb : okI (L + 19)) (v : V) : H.isClsF (V.ref (L + 19) hb) v = H.subM v (refN (L + 2)) := by
  unfold HeapM.isClsF
  have := B.class_ hL hb (k := 0) (by omega) (nameF_le 0)
  rw [this]
  simp
theorem BootIn.order (B : BootIn H L) (C : H.Cls) (hL : 0 ≤ L ∧ L ≤ 1000000) {k : Nat} (hk : k < 17) (hn : okI (L + 2 + (k : Int))) : H.order (V.ref (L + 2 + (k : Int)) hn) = (k :: ancF k).map fun (j : Nat) => refN (L + 2 + (j : Int)) := by
  rw [C.order (B.isClass hk hn)]
  have hi : H.items (V.ref (L + 2 + (k : Int)) hn) = ((ancF k).map fun (j : Nat) => refN (L + 2 + (j : Int))) := by
    unfold HeapM.items; rw [B.cls k hk hn]
    show ((ancF k).map fun (j : Nat) => L + 2 + (j : Int)).map refN = _
    exact map_refN _ _
  rw [hi, List.map_cons, refN_ok hn]; rfl
/-- Which class of the table comes of which. -/
theorem BootIn.sub (B : BootIn H L) (C : H.Cls) (hL : 0 ≤ L ∧ L ≤ 1000000) {i k : Nat} (hi : i < 17) (hk : k < 17) : H.subM (refN (L + 2 + (i : Int))) (refN (L + 2 + (k : Int))) = decide (k ∈ i :: ancF i) := by
  have hni : okI (L + 2 + (i : Int)) := okI_of ⟨by omega, by omega⟩
  have hnk : okI (L + 2 + (k : Int)) := okI_of ⟨by omega, by omega⟩
  unfold HeapM.subM
  rw [refN_ok hni, refN_ok hnk, B.isClass hk hnk, Bool.true_and, B.order C hL hi hni]
  rw [Bool.eq_iff_iff, decide_eq_true_eq, decide_eq_true_eq]
  constructor
  · intro h
    obtain ⟨j, hj, e⟩ := List.mem_map.1 h
    have hj17 : j < 17 := by
      rcases List.mem_cons.1 hj with e | e
      · subst e; exact hi
      · have := anc_lt i hi j e; omega
    have hnj : okI (L + 2 + (j : Int)) := okI_of ⟨by omega, by omega⟩
    rw [refN_ok hnj] at e
    have e2 : L + 2 + (j : Int) = L + 2 + (k : Int) := congrArg V.n e
    obtain rfl : j = k := by omega
    exact hj
  · intro h
    exact List.mem_map.2 ⟨k, h, by rw [refN_ok hnk]; rfl⟩
end
end Go.Proofs.YtobcnffjfclolaaDoor
/- fault: what Make makes (plain). -/
namespace Go.Proofs.YtobcnffjfclolaaDoor
set_option linter.unusedSimpArgs false
open Go.RowKit
set_option linter.unusedVariables false
/-- The instance that Make makes. -/
noncomputable def instP (H : HeapM) (c : V) (l : List V) : ObjM := { instO ((madeT H l).name c) (HeapM.name_le _ c) c with pairs := [(argsK, refN (H.last + 1))] }
theorem madeT_last (H : HeapM) (l : List V) : (madeT H l).last = H.last + 1 := rfl
theorem madeF_eq {H : HeapM} {N : Nat} (F : H.Fit N) (hL : 0 ≤ H.last ∧ H.last ≤ 2000000) (c : V) (l : List V) : H.madeF c l = (madeT H l).add (instP H c l) := by
  have hn : okI ((madeT H l).last + 1) := okI_of (by rw [madeT_last]; omega)
  have hP : PairsOk [(argsK, refN (H.last + 1))] := ⟨by simp, fun q hq => by
    simp at hq; subst hq; rfl, by simp⟩
  have e := add_put (F.G.add (tupleO l)) (instO ((madeT H l).name c) (HeapM.name_le _ c) c) hP (j := 0) (k := argsK) (x := refN (H.last + 1)) rfl hn
  have e2 : H.last + 2 = (madeT H l).last + 1 := by rw [madeT_last]; omega
  unfold HeapM.madeF madeI
  rw [e2, refN_ok hn]
  exact e
structure MadeIn (H : HeapM) (c : V) (l : List V) (N : Nat) (H' : HeapM) : Prop where
  fit : H'.Fit (N + l.length + 6)
  cls : H'.Cls
  olds : Olds H H'
  last : H'.last = H.last + 2
  tup : ∀ hn : okI (H.last + 1), H'.of (V.ref (H.last + 1) hn) = some (tupleO l)
  inst : ∀ hn : okI (H.last + 2), H'.of (V.ref (H.last + 2) hn) = some (instP H c l)
theorem madeF_in {H : HeapM} {N : Nat} (F : H.Fit N) (C : H.Cls) (hL : 0 ≤ H.last ∧ H.last ≤ 2000000) (c : V) (l : List V) : MadeIn H c l N (H.madeF c l) := by
  have e := madeF_eq F hL c l
  have F1 : (madeT H l).Fit (N + l.length + 2) := F.add (tupleO l) ⟨by show (1 : Int) ≤ 2; decide, by show (2 : Int) ≤ 12; decide⟩ rfl
  have C1 : (madeT H l).Cls := C.add F.G _ fun h => by cases h
  have F2 := (F1.add (instO ((madeT H l).name c) (HeapM.name_le _ c) c) ⟨by show (1 : Int) ≤ 6; decide, by show (6 : Int) ≤ 12; decide⟩ rfl).put (refN (H.last + 2)) argsK (refN (H.last + 1))
  have C2 := (C1.add F1.G (instO ((madeT H l).name c) (HeapM.name_le _ c) c) fun h => by cases h).put (refN (H.last + 2)) argsK (refN (H.last + 1))
  refine ⟨?_, ?_, ?_, ?_, fun hn => ?_, fun hn => ?_⟩
  · exact HeapM.Fit.more (show (H.madeF c l).Fit _ from F2) (by show N + l.length + 2 + 1 + 2 + 1 ≤ N + l.length + 6; omega)
  · exact C2
  · rw [e]; exact (olds_add F.G _).trans (olds_add F1.G _)
  · rw [e]
    show H.last + 1 + 1 = H.last + 2
    omega
  · rw [e]
    exact add_of_old F1.G _ (add_of_new F.G _ hn)
  · rw [e]
    have hn' : okI ((madeT H l).last + 1) := okI_of (by rw [madeT_last]; omega)
    have h2 := add_of_new F1.G (instP H c l) hn'
    have e2 : V.ref ((madeT H l).last + 1) hn' = V.ref (H.last + 2) hn := by
      have : (madeT H l).last + 1 = H.last + 2 := by rw [madeT_last]; omega
      congr 1
    rw [e2] at h2
    exact h2
section
variable {H H' : HeapM} {c : V} {l : List V} {N : Nat}
theorem MadeIn.kindV (M : MadeIn H c l N H') (hn : okI (H.last + 2)) : H'.kind (V.ref (H.last + 2) hn) = 6 := by
  unfold HeapM.kind; rw [M.inst hn]; rfl
theorem MadeIn.ofV (M : MadeIn H c l N H') (hn : okI (H.last + 2)) (hc : H.isClass c = true) : H'.ofM (V.ref (H.last + 2) hn) = some c.asRef := by
  have h1 : H'.at (V.ref (H.last + 2) hn) 0 = some c.asRef := by
    unfold HeapM.at HeapM.items; rw [M.inst hn]; rfl
  have h2 : H'.isClass c.asRef = true := by
    obtain ⟨o, ho, -⟩ := HeapM.isClass_of hc
    have hk := HeapM.of_some ho
    have hr : H.of c.asRef = some o := by unfold HeapM.of; rw [if_pos (show c.asRef.kind = 4 from rfl)]; exact hk.2
    have := (M.olds.kind (v := c.asRef) (by rw [hr]; rfl)).2.2.2.2
    rw [this]; unfold HeapM.isClass HeapM.kind at hc ⊢; rw [hr, ← ho]; exact hc
  unfold HeapM.ofM
  rw [M.kindV hn, h1, Option.getD_some, if_pos ⟨rfl, h2⟩]
  rfl
theorem MadeIn.nameV (M : MadeIn H c l N H') (hn : okI (H.last + 2)) (F : H.Good N) (hc : (H.of c).isSome = true) : H'.name (V.ref (H.last + 2) hn) = H.name c := by
  unfold HeapM.name
  rw [M.inst hn]
  show (madeT H l).name c = _
  exact ((olds_add F _).kind hc).2.2.1
theorem MadeIn.getV (M : MadeIn H c l N H') (hn : okI (H.last + 2)) : H'.get (V.ref (H.last + 2) hn) argsK = some (refN (H.last + 1)) := by
  unfold HeapM.get HeapM.pairs
  rw [M.inst hn]
  show getL [(argsK, refN (H.last + 1))] argsK = _
  simp [getL]
theorem MadeIn.isF (M : MadeIn H c l N H') (hn : okI (H.last + 2)) (hc : H.isClass c = true) (boot : V) : H'.isF boot (V.ref (H.last + 2) hn) = H'.isClsF boot c.asRef := by
  unfold HeapM.isF
  rw [M.ofV hn hc]
theorem MadeIn.clsV (M : MadeIn H c l N H') (hn : okI (H.last + 2)) : H'.isClass (V.ref (H.last + 2) hn) = false := by
  unfold HeapM.isClass; rw [M.kindV hn]; rfl
end
end Go.Proofs.YtobcnffjfclolaaDoor
/- fault: the document's examples (plain). -/
namespace Go.Proofs.YtobcnffjfclolaaDoor
set_option linter.unusedSimpArgs false
open Go.RowKit
set_option linter.unusedVariables false
def r3F : V := V.ref 3 (by decide)
def r5F : V := V.ref 5 (by decide)
def r19F : V := V.ref 19 (by decide)
def r20F : V := V.ref 20 (by decide)
def r21F : V := V.ref 21 (by decide)
def r23F : V := V.ref 23 (by decide)
def oneS : ByteArray := ⟨#[107]⟩
theorem oneS_le : oneS.size ≤ maxLen := by decide
def oneK : V := keyS oneS oneS_le
def noS : ByteArray := ⟨#[110, 111]⟩
theorem noS_le : noS.size ≤ maxLen := by decide
noncomputable def B0F : HeapM := bootM ⟨[], 0⟩
noncomputable def B1F : HeapM := B0F.madeF r5F [oneK]
noncomputable def B2F : HeapM := B1F.madeF r3F []
theorem b0 : B0F.Fit 1100 ∧ B0F.Cls ∧ BootIn B0F 0 ∧ B0F.last = 19 := by
  obtain ⟨h1, h2, h3, h4, -⟩ := booted fit_empty cls_empty (by decide)
  exact ⟨h1.more (by omega), h2, h3, h4⟩
theorem b1 : MadeIn B0F r5F [oneK] 1100 B1F := madeF_in b0.1 b0.2.1 (by rw [b0.2.2.2]; decide) _ _
theorem l1 : B1F.last = 21 := by rw [b1.last, b0.2.2.2]; decide
theorem b2 : MadeIn B1F r3F [] (1100 + 1 + 6) B2F := madeF_in b1.fit b1.cls (by rw [l1]; decide) _ _
theorem i1 : BootIn B1F 0 := b1.olds.boot b0.2.2.1
theorem i2 : BootIn B2F 0 := b2.olds.boot i1
theorem cls0 : B0F.isClass r5F = true := b0.2.2.1.isClass (k := 3) (by omega) (by decide)
theorem cls1 : B1F.isClass r3F = true := i1.isClass (k := 1) (by omega) (by decide)
theorem cls5 : B2F.isClass r5F = true := i2.isClass (k := 3) (by omega) (by decide)
theorem cls3 : B2F.isClass r3F = true := i2.isClass (k := 1) (by omega) (by decide)
theorem e3 : refN (0 + 2 + ((1 : Nat) : Int)) = r3F := refN_ok (by decide)
theorem e5 : refN (0 + 2 + ((3 : Nat) : Int)) = r5F := refN_ok (by decide)
theorem e2 : refN (0 + 2 + ((0 : Nat) : Int)) = refN (0 + 2) := rfl
theorem fg1 : B0F.get r19F (keyF 1) = some r3F := by rw [← e3]; exact b0.2.2.1.get (by decide) (k := 1) (by omega)
theorem fg2 : B0F.get r19F (keyF 3) = some r5F := by rw [← e5]; exact b0.2.2.1.get (by decide) (k := 3) (by omega)
theorem fc1 : B0F.classF r19F (nameF 3) (nameF_le 3) = some r5F := by rw [← e5]; exact b0.2.2.1.class_ (by decide) (by decide) (k := 3) (by omega) _
theorem fc2 : B1F.classF r19F (nameF 1) (nameF_le 1) = some r3F := by rw [← e3]; exact i1.class_ (by decide) (by decide) (k := 1) (by omega) _
theorem ref_eq {a b : Int} (h : a = b) {ha : okI a} {hb : okI b} : V.ref a ha = V.ref b hb := by subst h; rfl
theorem Olds.ofM {H H' : HeapM} (K : Olds H H') {v c : V} (h : H.ofM v = some c) : H'.ofM v = some c := by
  unfold HeapM.ofM at h ⊢
  by_cases hc : H.kind v = 6 ∧ H.isClass ((H.at v 0).getD V.zero) = true
  · rw [if_pos hc] at h
    have hv : (H.of v).isSome = true := by
      have := hc.1
      unfold HeapM.kind at this
      cases g : H.of v with
      | none => rw [g] at this; cases this
      | some o => rfl
    have k1 := K.kind hv
    have k2 := K.kind (class_some hc.2)
    have ha : H'.at v 0 = H.at v 0 := by unfold HeapM.at; rw [k1.2.1]
    rw [ha, k1.1, k2.2.2.2.2, if_pos hc]
    exact h
  · rw [if_neg hc] at h; cases h
theorem v21 : B2F.ofM r21F = some r5F := by
  have h := b1.ofV (by rw [b0.2.2.2]; decide) cls0
  have e : V.ref (B0F.last + 2) (by rw [b0.2.2.2]; decide) = r21F := ref_eq (by rw [b0.2.2.2]; rfl)
  rw [e] at h; exact b2.olds.ofM h
theorem v23 : B2F.ofM r23F = some r3F := by
  have h := b2.ofV (by rw [l1]; decide) cls1
  have e : V.ref (B1F.last + 2) (by rw [l1]; decide) = r23F := ref_eq (by rw [l1]; rfl)
  rw [e] at h; exact h
theorem in21 : ∃ o, B2F.of r21F = some o ∧ o.pairs = [(argsK, r20F)] ∧ o.kind = 6 ∧ o.name = nameF 3 := by
  have h := b1.inst (by rw [b0.2.2.2]; decide)
  have e : V.ref (B0F.last + 2) (by rw [b0.2.2.2]; decide) = r21F := ref_eq (by rw [b0.2.2.2]; rfl)
  rw [e] at h
  refine ⟨_, b2.olds.of _ _ h, ?_, rfl, ?_⟩
  · show [(argsK, refN (B0F.last + 1))] = _
    rw [b0.2.2.2, refN_ok (by decide)]; rfl
  · show (B0F.add (tupleO [oneK])).name r5F = _
    rw [((olds_add b0.1.G _).kind (class_some cls0)).2.2.1]
    unfold HeapM.name
    have := b0.2.2.1.cls 3 (by omega) (by decide)
    rw [show V.ref (0 + 2 + ((3 : Nat) : Int)) (by decide) = r5F from rfl] at this
    rw [this]; rfl
theorem in20 : B2F.of r20F = some (tupleO [oneK]) := by
  have h := b1.tup (by rw [b0.2.2.2]; decide)
  have e : V.ref (B0F.last + 1) (by rw [b0.2.2.2]; decide) = r20F := ref_eq (by rw [b0.2.2.2]; rfl)
  rw [e] at h
  exact b2.olds.of _ _ h
theorem no23 : B2F.isClass r23F = false := by
  have h := b2.clsV (by rw [l1]; decide)
  have e : V.ref (B1F.last + 2) (by rw [l1]; decide) = r23F := ref_eq (by rw [l1]; rfl)
  rw [e] at h; exact h
theorem isc (v : V) : B2F.isClsF r19F v = B2F.subM v (refN (0 + 2)) := i2.isCls (by decide) (by decide) v
theorem subF {i k : Nat} (hi : i < 17) (hk : k < 17) : B2F.subM (refN (0 + 2 + (i : Int))) (refN (0 + 2 + (k : Int))) = decide (k ∈ i :: ancF i) := i2.sub b2.cls (by decide) hi hk
theorem ga : B2F.get r21F argsK = some r20F := by
  obtain ⟨o, h1, h2, -⟩ := in21
  unfold HeapM.get HeapM.pairs
  rw [h1]
  show getL o.pairs argsK = _
  rw [h2]; simp [getL]
theorem kb19 : B2F.kind r19F = 12 := by
  unfold HeapM.kind
  have := i2.mod (by decide)
  rw [show V.ref (0 + 19) (by decide) = r19F from rfl] at this
  rw [this]; rfl
theorem nv21 : B2F.name r21F = nameF 3 := by
  obtain ⟨o, h1, -, -, h2⟩ := in21
  unfold HeapM.name; rw [h1]; exact h2
theorem ia20 : B2F.items r20F = [oneK] := by unfold HeapM.items; rw [in20]; rfl
theorem ic3 : B2F.isClsF r19F r3F = true := by
  rw [isc, ← e3]
  have := subF (i := 1) (k := 0) (by omega) (by omega)
  exact this.trans (by decide)
theorem ic5 : B2F.isClsF r19F r5F = true := by
  rw [isc, ← e5]
  have := subF (i := 3) (k := 0) (by omega) (by omega)
  exact this.trans (by decide)
theorem ic23 : B2F.isClsF r19F r23F = false := by
  rw [isc]
  unfold HeapM.subM
  have : B2F.order r23F = [] := by unfold HeapM.order; rw [no23]; rfl
  rw [this]; simp
theorem is21 : B2F.isF r19F r21F = true := by unfold HeapM.isF; rw [v21]; exact ic5
theorem is23 : B2F.isF r19F r23F = true := by unfold HeapM.isF; rw [v23]; exact ic3
theorem kind_cls {H : HeapM} {v : V} (h : H.isClass v = true) : H.kind v = 5 := by unfold HeapM.isClass at h; exact of_decide_eq_true h
theorem cands_cls {H : HeapM} {v : V} (h : H.isClass v = true) : H.candsF v = [v] := by
  unfold HeapM.candsF
  rw [kind_cls h, if_neg (by decide)]
theorem m1 : B2F.matchF r19F r21F r3F = some true := by
  unfold HeapM.matchF HeapM.hitF
  rw [cands_cls cls3, is21, v21]
  have h : B2F.subM r5F r3F = true := by
    rw [← e3, ← e5]
    exact (subF (i := 3) (k := 1) (by omega) (by omega)).trans (by decide)
  simp [ic3, h]
theorem m2 : B2F.matchF r19F r23F r5F = some false := by
  unfold HeapM.matchF HeapM.hitF
  rw [cands_cls cls5, is23, v23]
  have h : B2F.subM r3F r5F = false := by
    rw [← e3, ← e5]
    exact (subF (i := 1) (k := 3) (by omega) (by omega)).trans (by decide)
  simp [ic5, h]
theorem of_str {H : HeapM} {s : ByteArray} {hs : s.size ≤ maxLen} : H.of (keyS s hs) = none := by
  unfold HeapM.of
  rw [if_neg (by show ¬ (3 : Int) = 4; decide)]
theorem m3 : B2F.matchF r19F r21F oneK = none := by
  unfold HeapM.matchF HeapM.candsF
  have hk : B2F.kind oneK = 0 := by unfold HeapM.kind; rw [show oneK = keyS oneS oneS_le from rfl, of_str]; rfl
  have hc : B2F.isClass oneK = false := by unfold HeapM.isClass; rw [hk]; rfl
  have h : B2F.isClsF r19F oneK = false := by
    rw [isc]
    unfold HeapM.subM
    have : B2F.order oneK = [] := by unfold HeapM.order; rw [hc]; rfl
    rw [this]; simp
  rw [hk, if_neg (by decide)]
  try simp [h]
theorem no_key : ∀ k, k < 17 → nameF k ≠ noS := by decide +kernel
theorem cn : B2F.classF r19F noS noS_le = none := by
  have hg : B2F.get r19F (keyS noS noS_le) = none := by
    unfold HeapM.get HeapM.pairs
    have := i2.mod (by decide)
    rw [show V.ref (0 + 19) (by decide) = r19F from rfl] at this
    rw [this]
    show getL ((pairsF 0).take 17) _ = none
    rw [List.take_of_length_le (by rw [pairsF_len]; exact Nat.le_refl _), getL_none]
    intro p hp
    unfold pairsF at hp
    obtain ⟨j, hj, rfl⟩ := List.mem_map.1 hp
    intro e
    exact no_key j (List.mem_range.1 hj) (congrArg V.s e)
  unfold HeapM.classF
  rw [hg]; rfl
end Go.Proofs.YtobcnffjfclolaaDoor
