/- ch 15: Pick. -/
import Derived.Test.YtobcnffjfclolaaDoorFaultC
import Derived.Test.YtobcnffjfclolaaDoorFaultA
import Derived.Test.YtobcnffjfclolaaDoorObjC
import Derived.Test.YtobcnffjfclolaaDoorObjE
import Derived.Test.YtobcnffjfclolaaDoorObjF
import Derived.Test.YtobcnffjfclolaaDoorOpen
namespace Go.Proofs.YtobcnffjfclolaaDoor
set_option linter.unusedSimpArgs false
open Go.RowKit
set_option linter.unusedVariables false
/-- Which one is picked, by any number. -/
def pickE (n : Nat) (i : Int) : Nat := if i.tmod n < 0 then (i.tmod n + n).toNat else (i.tmod n).toNat
theorem pickE_lt {n : Nat} (hn : 0 < n) (i : Int) : pickE n i < n := by
  have h1 := Int.tmod_lt_of_pos i (show (0 : Int) < n by omega)
  have h2 := Int.lt_tmod_of_pos i (show (0 : Int) < n by omega)
  unfold pickE
  split <;> omega
def pickL (l : List V) (i : Int) : V := (l[pickE l.length i]?).getD V.zero
theorem pickL_mem {l : List V} (h : l ≠ []) (i : Int) : pickL l i ∈ l := by
  have := pickE_lt (List.length_pos_iff.2 h) i
  unfold pickL
  rw [List.getElem?_eq_getElem this]
  exact List.getElem_mem this
theorem pick15_ok (w : World) (sv : Value) (l : List V) (i : Int) (hs : SeesV w sv l) :
    Calls Tryd.prog 45 #[sv, .int .i64 i] w fun e w' => e = .returned (pickL l i).val ∧ Below w.heap.size w w' := by
  obtain ⟨a, ac, rfl, a1, a2, a3⟩ := hs
  by_cases hl : l = []
  · subst hl
    go_enter Tryd.func45, Tryd.ntmps45
    go_wp2
    exact bodyPost_ret (v := .agg #[.int .i64 0, .int .i64 0, .string ⟨#[]⟩]) (by simp [results, Tryd.results45, go_sem]) rfl ⟨rfl, by (repeat (first | exact Below.refl _ _ | assumption | refine Below.drewN ?_ _ | refine Below.drew ?_ | refine Below.alloc ?_ (by (try simp only [World.size_alloc, size_drewN, size_setCell]); omega) _ | refine Below.setCell ?_ (by (try simp only [World.size_alloc, size_drewN, size_setCell]); omega) _))⟩
  · have hlen : 0 < l.length := List.length_pos_iff.2 hl
    have hk : pickE l.length i < l.length := pickE_lt hlen i
    have hpv : pickL l i = l[pickE l.length i] := by unfold pickL; rw [List.getElem?_eq_getElem hk]; rfl
    have hget : l[pickE l.length i]? = some (pickL l i) := by rw [hpv]; exact List.getElem?_eq_getElem hk
    have hb1 := Int.tmod_lt_of_pos i (show (0 : Int) < l.length by omega)
    have hb2 := Int.lt_tmod_of_pos i (show (0 : Int) < l.length by omega)
    have hE : pickE l.length i = if i.tmod l.length < 0 then (i.tmod l.length + l.length).toNat else (i.tmod l.length).toNat := rfl
    obtain ⟨x, hx⟩ : ∃ gx_, (pickL l i) = gx_ := ⟨_, rfl⟩
    rw [hx] at hget ⊢
    obtain ⟨k, hkk⟩ : ∃ gx_, (pickE l.length i) = gx_ := ⟨_, rfl⟩
    rw [hkk] at hget hk hE
    obtain ⟨g, o, rfl, hc⟩ : ∃ g o, a = some ⟨g, o, none⟩ ∧ ∀ i v, l[i]? = some v → w.cell? ⟨g, o + i * 3, none⟩ = some (.int .i64 v.kind) ∧ w.cell? ⟨g, o + i * 3 + 1, none⟩ = some (.int .i64 v.n) ∧ w.cell? ⟨g, o + i * 3 + 2, none⟩ = some (.string v.s) := by
      rcases a3 with h | h
      · exact absurd h hl
      · exact h
    obtain ⟨c0, c1, c2⟩ := hc k x hget
    replace c0 := cellBelow c0 (belowAlloc w (.cells #[.int .i64 0, .int .i64 0, .string ⟨#[]⟩] 31))
    replace c1 := cellBelow c1 (belowAlloc w (.cells #[.int .i64 0, .int .i64 0, .string ⟨#[]⟩] 31))
    replace c2 := cellBelow c2 (belowAlloc w (.cells #[.int .i64 0, .int .i64 0, .string ⟨#[]⟩] 31))
    have hkl : (k : Int) < l.length := by omega
    have hl0 : ((l.length : Int) == 0) = false := by simp; omega
    have hL2 : (l.length : Int) ≤ 9223372036854775807 := by unfold maxLen at a2; omega
    have hl1 : ¬ l.length = 0 := by omega
    clear hx hkk hpv hget hc hl a3
    obtain ⟨r, hr⟩ : ∃ gx_, (i.tmod l.length) = gx_ := ⟨_, rfl⟩
    rw [hr] at hb1 hb2 hE
    by_cases hneg : r < 0
    · rw [if_pos hneg] at hE
      have hk2 : r + (l.length : Int) = k := by omega
      have hw : IntKind.i64.wrap (r + (l.length : Int)) = k := by rw [IntWalk.i64_in (r + (l.length : Int)) (by omega)]; exact hk2
      have HE := Lib.hid hE
      clear hE
      go_enter Tryd.func45, Tryd.ntmps45
      go_wp2
      exact bodyPost_ret (v := x.val) (by simp [results, Tryd.results45, go_sem, V.val]) rfl ⟨rfl, by (repeat (first | exact Below.refl _ _ | assumption | refine Below.drewN ?_ _ | refine Below.drew ?_ | refine Below.alloc ?_ (by (try simp only [World.size_alloc, size_drewN, size_setCell]); omega) _ | refine Below.setCell ?_ (by (try simp only [World.size_alloc, size_drewN, size_setCell]); omega) _))⟩
    · rw [if_neg hneg] at hE
      obtain rfl : r = (k : Int) := by omega
      clear hE hb2
      go_enter Tryd.func45, Tryd.ntmps45
      go_wp2
      exact bodyPost_ret (v := x.val) (by simp [results, Tryd.results45, go_sem, V.val]) rfl ⟨rfl, by (repeat (first | exact Below.refl _ _ | assumption | refine Below.drewN ?_ _ | refine Below.drew ?_ | refine Below.alloc ?_ (by (try simp only [World.size_alloc, size_drewN, size_setCell]); omega) _ | refine Below.setCell ?_ (by (try simp only [World.size_alloc, size_drewN, size_setCell]); omega) _))⟩
theorem Pick_ok (w : World) (sv : Value) (l : List V) (i : Int) (hs : SeesV w sv l) :
    Calls Tryd.prog 23 #[sv, .int .i64 i] w fun e w' => e = .returned (pickL l i).val ∧ Below w.heap.size w w' := by
  have S0 : Sep w (zeroB w.heap.size :: []) (w.alloc (.cells #[.int .i64 0, .int .i64 0, .string ⟨#[]⟩] 31)) := (Sep.start (Below.refl w.heap.size w)).alloc _
  have M := pick15_ok (w.alloc (.cells #[.int .i64 0, .int .i64 0, .string ⟨#[]⟩] 31)) sv l i (hs.keep fun p v h => cellBelow h (belowAlloc w _))
  obtain ⟨x, hx⟩ : ∃ gx_, (pickL l i) = gx_ := ⟨_, rfl⟩
  rw [hx] at M
  rw [hx]
  simp only [V.val] at M
  replace M := Lib.hid M
  replace S0 := Lib.hid S0
  clear hx hs
  obtain ⟨b, hb⟩ : ∃ gx_, (w.heap.size) = gx_ := ⟨_, rfl⟩
  rw [hb] at S0
  go_enter Tryd.func23, Tryd.ntmps23
  go_wp2_with fail
  try simp only [hb]
  refine M.out.mono ?_
  rintro e w2 ⟨rfl, hbl⟩
  have S := S0.out.later hbl
  obtain ⟨v0, v1, v2, v3, v4, v5⟩ := valBlkO (x := V.zero) (S.box 0 rfl)
  simp only [V.zero] at v0 v1 v2
  have T := Sep.setZero S x
  have t0 := cellAt (T.box (b := b) 0 rfl) 0 (v := .int .i64 x.kind) rfl
  have t1 := cellAt (T.box (b := b) 0 rfl) 1 (v := .int .i64 x.n) rfl
  have t2 := cellAt (T.box (b := b) 0 rfl) 2 (v := .string x.s) rfl
  have HT := Lib.hid T.below
  clear S T M S0 hbl
  go_wp2
  exact bodyPost_ret (v := x.val) (by simp [results, Tryd.results23, go_sem, V.val, t0, t1, t2]) rfl ⟨rfl, HT.out⟩
end Go.Proofs.YtobcnffjfclolaaDoor
/- The heap of a plan: plainly. -/
namespace Go.Proofs.YtobcnffjfclolaaDoor
set_option linter.unusedSimpArgs false
open Go.RowKit
set_option linter.unusedVariables false
def aheadS : ByteArray := ⟨#[97, 104, 101, 97, 100]⟩
def aheadO : ObjM := ⟨1, aheadS, 0, [], [], by decide, by decide, by decide⟩
def madeS : ByteArray := ⟨#[109, 97, 100, 101]⟩
theorem madeS_le : madeS.size ≤ maxLen := by decide
def aheadM (k : Nat) : HeapM := ⟨(List.range k).map fun (j : Nat) => ((j : Int) + 1, aheadO), (k : Int)⟩
theorem aheadM_succ (k : Nat) : aheadM (k + 1) = (aheadM k).add aheadO := by
  unfold aheadM HeapM.add
  rw [List.range_succ, List.map_append]
  show HeapM.mk _ _ = HeapM.mk _ _
  have e : ((k + 1 : Nat) : Int) = (k : Int) + 1 := by omega
  rw [e]; rfl
theorem aheadM_in : ∀ k : Nat, (aheadM k).Fit (2 * k) ∧ (aheadM k).Cls := by
  intro k
  induction k with
  | zero => exact ⟨fit_empty, cls_empty⟩
  | succ k ih =>
    rw [aheadM_succ]
    exact ⟨ih.1.addP aheadO (by decide) rfl (by simp [aheadO]; omega), ih.2.add ih.1.G _ fun h => by exact absurd h (by decide)⟩
/-- The table's classes, as values. -/
noncomputable def clsL (L : Int) (k : Nat) : List V := (List.range k).map fun (j : Nat) => refN (L + 2 + (j : Int))
theorem clsL_succ (L : Int) (k : Nat) : clsL L (k + 1) = clsL L k ++ [refN (L + 2 + (k : Int))] := by unfold clsL; rw [List.range_succ, List.map_append]; rfl
theorem clsL_len (L : Int) (k : Nat) : (clsL L k).length = k := by simp [clsL]
/-- A row of bases: a class more, or none. -/
noncomputable def rowStep (s : HeapM × List V) (row : List Int) : HeapM × List V :=
  match (s.1.add dictO).mkClass madeS madeS_le (row.map (pickL s.2)) (refN (s.1.last + 1)) with
  | some H' => (H', s.2 ++ [refN (s.1.last + 2)])
  | none => (s.1.add dictO, s.2)
noncomputable def rowsM (s : HeapM × List V) (B : List (List Int)) : HeapM × List V := B.foldl rowStep s
noncomputable def instAt (s : HeapM × List V) (x : V) : HeapM × List V := (s.1.add (instO (s.1.name x) (HeapM.name_le _ _) x), s.2 ++ [refN (s.1.last + 1)])
noncomputable def instStep (m : List V) (s : HeapM × List V) (i : Int) : HeapM × List V := instAt s (pickL m i)
noncomputable def instsM (m : List V) (s : HeapM × List V) (I : List Int) : HeapM × List V := I.foldl (instStep m) s
theorem foldl_take {α β : Type} (f : β → α → β) (s : β) (l : List α) {k : Nat} (hk : k < l.length) : (l.take (k + 1)).foldl f s = f ((l.take k).foldl f s) l[k] := by
  rw [List.take_add_one, List.getElem?_eq_getElem hk, List.foldl_append]; rfl
noncomputable def bootS (a : Nat) : HeapM × List V := (bootM (aheadM a), clsL (a : Int) 17)
noncomputable def laidM (a : Nat) (B : List (List Int)) (I : List Int) : HeapM × List V := instsM (rowsM (bootS a) B).2 (rowsM (bootS a) B) I
/-- What there is behind some of the rows. -/
structure LaidA (s : HeapM × List V) (L : Int) (N k : Nat) : Prop where
  fit : s.1.Fit N
  cls : s.1.Cls
  boot : BootIn s.1 L
  last : L + 19 ≤ s.1.last ∧ s.1.last ≤ L + 19 + 2 * (k : Int)
  mem : ∀ v ∈ s.2, s.1.isClass v = true ∧ v = v.asRef
  len : 17 ≤ s.2.length ∧ s.2.length ≤ 17 + k
theorem boot_in (a : Nat) (ha : a ≤ 20) : LaidA (bootS a) (a : Int) 1140 0 := by
  obtain ⟨F, C⟩ := aheadM_in a
  have hl : (aheadM a).last = (a : Int) := rfl
  have hL : 0 ≤ (aheadM a).last ∧ (aheadM a).last ≤ 1000000 := by rw [hl]; omega
  obtain ⟨h1, h2, h3, h4, h5⟩ := booted F C hL
  rw [hl] at h3 h4
  refine ⟨h1.more (by omega), h2, h3, ?_, fun v hv => ?_, ?_⟩
  · show (a : Int) + 19 ≤ (bootM (aheadM a)).last ∧ (bootM (aheadM a)).last ≤ _
    rw [h4]; omega
  · obtain ⟨j, hj, rfl⟩ := List.mem_map.1 hv
    have hj := List.mem_range.1 hj
    have hn : okI ((a : Int) + 2 + (j : Int)) := okI_of ⟨by omega, by omega⟩
    rw [refN_ok hn]
    exact ⟨h3.isClass hj hn, rfl⟩
  · show 17 ≤ (clsL (a : Int) 17).length ∧ (clsL (a : Int) 17).length ≤ 17 + 0
    rw [clsL_len]; omega
theorem pick_cls {s : HeapM × List V} {L : Int} {N k : Nat} (A : LaidA s L N k) (i : Int) : s.1.isClass (pickL s.2 i) = true ∧ pickL s.2 i = (pickL s.2 i).asRef :=
  A.mem _ (pickL_mem (List.ne_nil_of_length_pos (by have := A.len; omega)) i)
theorem LaidA.dict {s : HeapM × List V} {L : Int} {N k : Nat} (A : LaidA s L N k) : LaidA (s.1.add dictO, s.2) L (N + 2) (k + 1) :=
  ⟨A.fit.addP dictO (by decide) rfl (by simp [dictO]), A.cls.add A.fit.G dictO (fun h => by exact absurd h (by decide)), A.boot.add A.fit.G dictO,
    by have := A.last; show L + 19 ≤ s.1.last + 1 ∧ s.1.last + 1 ≤ _; omega, fun v hv => ⟨class_add A.fit.G _ (A.mem v hv).1, (A.mem v hv).2⟩, by have := A.len; show 17 ≤ s.2.length ∧ s.2.length ≤ _; omega⟩
theorem LaidA.step {s : HeapM × List V} {L : Int} {N k : Nat} (A : LaidA s L N k) (hL : 0 ≤ L ∧ L ≤ 20) (hk : k < 20) (row : List Int) : LaidA (rowStep s row) L (N + 200) (k + 1) := by
  have D := A.dict
  have hl := A.last
  have hn1 : okI (s.1.last + 1) := okI_of ⟨by omega, by omega⟩
  unfold rowStep
  rw [refN_ok hn1]
  cases hc : (s.1.add dictO).mkClass madeS madeS_le (row.map (pickL s.2)) (V.ref (s.1.last + 1) hn1) with
  | none =>
    simp only
    exact ⟨D.fit.more (by omega), D.cls, D.boot, D.last, D.mem, D.len⟩
  | some H' =>
    simp only
    obtain ⟨l, h1, h2, rfl⟩ := mkClass_some hc
    have hp : (s.1.add dictO).pairs (V.ref (s.1.last + 1) hn1) = [] := by unfold HeapM.pairs; rw [add_of_new A.fit.G]; rfl
    have hlast : (s.1.add dictO).last = s.1.last + 1 := rfl
    have hb : ∀ b ∈ row.map (pickL s.2), b = b.asRef := fun b hb => by
      obtain ⟨i, _, rfl⟩ := List.mem_map.1 hb
      exact (pick_cls A i).2
    have hn2 : okI ((s.1.add dictO).last + 1) := okI_of (by rw [hlast]; omega)
    have e2 : s.1.last + 2 = (s.1.add dictO).last + 1 := by rw [hlast]; omega
    have hF : (s.1.add dictO).Fit (N + 2) := D.fit
    refine ⟨hF.made h1 _ (by rw [hp, hlast]; simp; omega), D.cls.made hF.G hb h1 _, D.boot.add hF.G _, ?_, fun v hv => ?_, ?_⟩
    · show L + 19 ≤ s.1.last + 1 + 1 ∧ s.1.last + 1 + 1 ≤ _
      omega
    · rcases List.mem_append.1 hv with h | h
      · exact ⟨class_add hF.G _ (D.mem v h).1, (D.mem v h).2⟩
      · simp only [List.mem_singleton] at h
        subst h
        rw [e2, refN_ok hn2]
        refine ⟨?_, rfl⟩
        unfold HeapM.isClass HeapM.kind
        rw [add_of_new hF.G]; rfl
    · have := A.len
      show 17 ≤ (s.2 ++ [_]).length ∧ (s.2 ++ [_]).length ≤ _
      simp; omega
theorem rows_in (a : Nat) (ha : a ≤ 20) (B : List (List Int)) (hB : B.length ≤ 20) : ∀ k, k ≤ B.length → LaidA (rowsM (bootS a) (B.take k)) (a : Int) (1140 + 200 * k) k := by
  intro k
  induction k with
  | zero => intro _; exact boot_in a ha
  | succ k ih =>
    intro hk
    have h := (ih (by omega)).step ⟨by omega, by omega⟩ (by omega) B[k]
    unfold rowsM at h ⊢
    rw [foldl_take _ _ _ (by omega)]
    exact ⟨h.fit.more (by omega), h.cls, h.boot, h.last, h.mem, h.len⟩
/-- What one of a plan's values is: a class, or an instance of one. -/
def HeapM.ClsOr (H : HeapM) (v : V) : Prop := v = v.asRef ∧ (H.isClass v = true ∨ ∃ c, H.ofM v = some c ∧ H.isClass c = true)
structure LaidB (s : HeapM × List V) (m : List V) (L : Int) (N k : Nat) : Prop where
  fit : s.1.Fit N
  cls : s.1.Cls
  boot : BootIn s.1 L
  last : L + 19 ≤ s.1.last ∧ s.1.last ≤ L + 59 + (k : Int)
  mem : ∀ v ∈ m, s.1.isClass v = true ∧ v = v.asRef
  all : ∀ v ∈ s.2, s.1.ClsOr v
  len : 17 ≤ m.length ∧ s.2.length = m.length + k
  pre : ∃ t, s.2 = m ++ t
theorem LaidB.step {s : HeapM × List V} {m : List V} {L : Int} {N k : Nat} (A : LaidB s m L N k) (hL : 0 ≤ L ∧ L ≤ 20) (hk : k < 20) (i : Int) : LaidB (instStep m s i) m L (N + 3) (k + 1) := by
  have hl := A.last
  have hx := A.mem _ (pickL_mem (List.ne_nil_of_length_pos (by have := A.len; omega)) i)
  unfold instStep
  obtain ⟨x, hx0⟩ : ∃ gx_, (pickL m i) = gx_ := ⟨_, rfl⟩
  rw [hx0] at hx ⊢
  unfold instAt
  have hn1 : okI (s.1.last + 1) := okI_of ⟨by omega, by omega⟩
  have O : Olds s.1 (s.1.add (instO (s.1.name x) (HeapM.name_le _ _) x)) := olds_add A.fit.G _
  refine ⟨A.fit.addP _ ⟨by show (1 : Int) ≤ 6; decide, by show (6 : Int) ≤ 12; decide⟩ rfl (by simp [instO]), A.cls.add A.fit.G _ fun h => (by cases h), A.boot.add A.fit.G _, ?_, fun v hv => ?_, fun v hv => ?_, ?_, ?_⟩
  · show L + 19 ≤ s.1.last + 1 ∧ s.1.last + 1 ≤ _
    omega
  · exact ⟨class_add A.fit.G _ (A.mem v hv).1, (A.mem v hv).2⟩
  · rcases List.mem_append.1 hv with h | h
    · obtain ⟨h1, h2⟩ := A.all v h
      refine ⟨h1, ?_⟩
      rcases h2 with h2 | ⟨c, h2, h3⟩
      · exact .inl (class_add A.fit.G _ h2)
      · exact .inr ⟨c, O.ofM h2, class_add A.fit.G _ h3⟩
    · simp only [List.mem_singleton] at h
      subst h
      rw [refN_ok hn1]
      refine ⟨rfl, .inr ⟨x, ?_, class_add A.fit.G _ hx.1⟩⟩
      have hof := add_of_new A.fit.G (instO (s.1.name x) (HeapM.name_le _ _) x) hn1
      have hk6 : (s.1.add (instO (s.1.name x) (HeapM.name_le _ _) x)).kind (V.ref (s.1.last + 1) hn1) = 6 := by unfold HeapM.kind; rw [hof]; rfl
      have hat : ((s.1.add (instO (s.1.name x) (HeapM.name_le _ _) x)).at (V.ref (s.1.last + 1) hn1) 0).getD V.zero = x := by
        unfold HeapM.at HeapM.items
        rw [hof, if_pos (by decide)]
        exact hx.2.symm
      unfold HeapM.ofM
      rw [hat, if_pos ⟨hk6, class_add A.fit.G _ hx.1⟩, ← hx.2]
  · have := A.len
    show 17 ≤ m.length ∧ (s.2 ++ [_]).length = _
    simp; omega
  · obtain ⟨t, ht⟩ := A.pre
    exact ⟨t ++ [refN (s.1.last + 1)], by show s.2 ++ _ = _; rw [ht, List.append_assoc]⟩
theorem insts_in (a : Nat) (ha : a ≤ 20) (B : List (List Int)) (hB : B.length ≤ 20) (I : List Int) (hI : I.length ≤ 20) : ∀ k, k ≤ I.length → LaidB (instsM (rowsM (bootS a) B).2 (rowsM (bootS a) B) (I.take k)) (rowsM (bootS a) B).2 (a : Int) (5140 + 3 * k) k := by
  have A := rows_in a ha B hB B.length (Nat.le_refl _)
  rw [List.take_length] at A
  intro k
  induction k with
  | zero =>
    intro _
    exact ⟨A.fit.more (by omega), A.cls, A.boot, by have := A.last; show (a : Int) + 19 ≤ (rowsM (bootS a) B).1.last ∧ (rowsM (bootS a) B).1.last ≤ _; omega, A.mem, fun v hv => ⟨(A.mem v hv).2, .inl (A.mem v hv).1⟩, ⟨A.len.1, rfl⟩, ⟨[], (List.append_nil _).symm⟩⟩
  | succ k ih =>
    intro hk
    have h := (ih (by omega)).step ⟨by omega, by omega⟩ (by omega) I[k]
    unfold instsM at h ⊢
    rw [foldl_take _ _ _ (by omega)]
    exact ⟨h.fit.more (by omega), h.cls, h.boot, h.last, h.mem, h.all, h.len, h.pre⟩
theorem laid_in (a : Nat) (ha : a ≤ 20) (B : List (List Int)) (hB : B.length ≤ 20) (I : List Int) (hI : I.length ≤ 20) : LaidB (laidM a B I) (rowsM (bootS a) B).2 (a : Int) 5200 I.length := by
  have A := insts_in a ha B hB I hI I.length (Nat.le_refl _)
  rw [List.take_length] at A
  exact ⟨A.fit.more (by omega), A.cls, A.boot, by have := A.last; unfold laidM; omega, A.mem, A.all, A.len, A.pre⟩
end Go.Proofs.YtobcnffjfclolaaDoor
/- A plan as it comes in. -/
namespace Go.Proofs.YtobcnffjfclolaaDoor
set_option linter.unusedSimpArgs false
open Go.ChangeShapes Go.WideShapes Go.ChangeAt Go.RowKit
set_option linter.unusedVariables false
/-- The law's Plan. -/
structure PlanIn (w : World) (ba : Option Addr) (bc : Nat) (svs : List SlV) (B : List (List Int)) (ia : Option Addr) (ic : Nat) (I : List Int) : Prop where
  rows : ∀ W', Below w.heap.size w W' → SeesR slCellN 1 W' (.slice ba svs.length bc) svs
  ins : RowsIn (fun W' => Below w.heap.size w W') svs B
  nums : ∀ W', Below w.heap.size w W' → SeesN W' (.slice ia I.length ic) I
  ok : ∀ r ∈ B, ∀ n ∈ r, okI n
  okI : ∀ n ∈ I, okI n
section
variable {H : Type} {enc : TypeId × Value → H} {w : World} {base : Nat} {spare : Nat → Bool} {held : Bool}
set_option maxRecDepth 100000 in
theorem open_intsF {fuel : Nat} {v : Value} {x : DataW H × List MemPlace} (h : DataW.trod enc Tryd.prog w base spare held fuel 44 [v] = some x) : ∃ l : List Int, SeesN w v l ∧ ∀ n ∈ l, okI n := by
  rcases Deep.open_slice Tryd.underlying44 h with ⟨h0, _⟩ | ⟨a, len, cap, m, n, D, Pl, hcs, hb, hl, hm, hmm, hx, hi⟩
  · simp only [List.cons.injEq, and_true] at h0
    subst h0
    exact ⟨[], ⟨none, 0, rfl, by simp, by simp, .inl rfl⟩, by simp⟩
  · simp only [List.cons.injEq, and_true] at hcs
    subst hcs
    have hlm : len ≤ m := by rw [hmm]; split <;> omega
    rw [cells1.1] at hi
    obtain ⟨f, hf⟩ : ∃ f : Nat → Int, ∀ i, i < len → w.cell? (a.add i) = some (.int .i64 (f i)) ∧ okI (f i) :=
      Deep.choose_lt (α := Int) (p := fun i n => w.cell? (a.add i) = some (.int .i64 n) ∧ okI n) (fun i hil => by
        obtain ⟨cs, h1, h2⟩ := hi i (by omega)
        obtain ⟨n, rfl, _, ho⟩ := DataW.trod_int Tryd.underlying3 h2
        obtain ⟨_, _, h3⟩ := World.cells?_some h1
        have := h3 0 (by omega)
        rw [Deep.add_add, Nat.mul_one, Nat.add_zero] at this
        exact ⟨n, this, ho⟩)
    have hlen : ((List.range len).map f).length = len := by simp
    obtain ⟨g, o, spot⟩ := a
    refine ⟨(List.range len).map f, ⟨some ⟨g, o, spot⟩, cap, by rw [hlen], by rw [hlen]; exact hl, hm, ?_⟩, fun n hn => ?_⟩
    · rcases Nat.eq_zero_or_pos len with h0 | h0
      · left; subst h0; rfl
      · right
        have hs : spot = none := by
          have h9 := (hf 0 h0).1
          simpa [Addr.add] using World.cell?_spot h9
        subst hs
        refine ⟨g, o, rfl, fun i v hv => ?_⟩
        have hil : i < len := by have := (List.getElem?_eq_some_iff.1 hv).1; rwa [hlen] at this
        have hv' : f i = v := by rw [List.getElem?_map, List.getElem?_range hil] at hv; exact Option.some.inj hv
        subst hv'
        have hadd : ∀ j, (⟨g, o, none⟩ : Addr).add j = ⟨g, o + j, none⟩ := fun j => by unfold Addr.add; split <;> simp_all
        have k0 := (hf i hil).1
        rw [hadd] at k0
        exact k0
    · obtain ⟨i, hi', rfl⟩ := List.mem_map.1 hn
      exact (hf i (List.mem_range.1 hi')).2
theorem cellsF : Tryd.prog.cellsOf 44 = 1 ∧ Tryd.prog.cellsOf 43 = 1 ∧ Tryd.prog.cellsOf 3 = 1 ∧ Tryd.prog.cellsOf 46 = 3 := ⟨by kernel_rfl, by kernel_rfl, by kernel_rfl, by kernel_rfl⟩
theorem seesN_form {w : World} {v : Value} {l : List Int} (h : SeesN w v l) : ∃ p : SlV, v = p.val := by
  obtain ⟨a, c, e, _⟩ := h; exact ⟨(a, l.length, c), e⟩
set_option maxRecDepth 100000 in
theorem open_rowsF {fuel : Nat} {v : Value} {x : DataW H × List MemPlace} (h : DataW.trod enc Tryd.prog w base spare held fuel 43 [v] = some x) :
    ∃ (a : Option Addr) (c : Nat) (svs : List SlV) (rows : List (List Int)), v = .slice a svs.length c ∧ SeesR slCellN 1 w v svs ∧ svs.length = rows.length ∧ (∀ r ∈ rows, ∀ n ∈ r, okI n) ∧ ∀ (i : Nat) (sv : SlV) (l : List Int), svs[i]? = some sv → rows[i]? = some l → SeesN w sv.val l := by
  rcases Deep.open_slice Tryd.underlying43 h with ⟨h0, _⟩ | ⟨a, len, cap, m, n, D, Pl, hcs, hb, hl, hm, hmm, hx, hi⟩
  · simp only [List.cons.injEq, and_true] at h0
    subst h0
    exact ⟨none, 0, [], [], rfl, ⟨none, 0, rfl, by simp, by simp, .inl rfl⟩, rfl, by simp, by simp⟩
  · simp only [List.cons.injEq, and_true] at hcs
    subst hcs
    have hlm : len ≤ m := by rw [hmm]; split <;> omega
    rw [cellsF.1] at hi
    obtain ⟨f, hf⟩ : ∃ f : Nat → SlV × List Int, ∀ i, i < len → w.cell? (a.add i) = some (f i).1.val ∧ SeesN w (f i).1.val (f i).2 ∧ ∀ n ∈ (f i).2, okI n :=
      Deep.choose_lt (α := SlV × List Int) (p := fun i p => w.cell? (a.add i) = some p.1.val ∧ SeesN w p.1.val p.2 ∧ ∀ n ∈ p.2, okI n) (fun i hil => by
        obtain ⟨cs, h1, h2⟩ := hi i (by omega)
        obtain ⟨_, h4, h3⟩ := World.cells?_some h1
        match cs, h4 with
        | [c0], _ =>
          obtain ⟨l, hl, hlo⟩ := open_intsF h2
          obtain ⟨p, rfl⟩ := seesN_form hl
          have := h3 0 (by omega)
          rw [Deep.add_add, Nat.mul_one, Nat.add_zero] at this
          exact ⟨(p, l), this, hl, hlo⟩)
    have hlen : ((List.range len).map fun i => (f i).1).length = len := by simp
    obtain ⟨g, o, spot⟩ := a
    refine ⟨some ⟨g, o, spot⟩, cap, (List.range len).map fun i => (f i).1, (List.range len).map fun i => (f i).2, by rw [hlen], ⟨some ⟨g, o, spot⟩, cap, by rw [hlen], by rw [hlen]; exact hl, hm, ?_⟩, by simp, fun r hr n hn => ?_, fun i sv l h1 h2 => ?_⟩
    · rcases Nat.eq_zero_or_pos len with h0 | h0
      · left; subst h0; rfl
      · right
        have hs : spot = none := by
          have h9 := (hf 0 h0).1
          simpa [Addr.add, SlV.val] using World.cell?_spot h9
        subst hs
        refine ⟨g, o, rfl, fun i v hv j u hu => ?_⟩
        have hil : i < len := by have := (List.getElem?_eq_some_iff.1 hv).1; rwa [hlen] at this
        have hv' : (f i).1 = v := by rw [List.getElem?_map, List.getElem?_range hil] at hv; exact Option.some.inj hv
        subst hv'
        have hadd : ∀ j, (⟨g, o, none⟩ : Addr).add j = ⟨g, o + j, none⟩ := fun j => by unfold Addr.add; split <;> simp_all
        have k0 := (hf i hil).1
        rw [hadd] at k0
        have hj : j = 0 := by have := (List.getElem?_eq_some_iff.1 hu).1; simp [slCellN] at this; omega
        subst hj
        have hu' : (f i).1.val = u := by simpa [slCellN, SlV.val] using hu
        rw [← hu', Nat.mul_one, Nat.add_zero]
        exact k0
    · obtain ⟨i, hi', rfl⟩ := List.mem_map.1 hr
      exact (hf i (List.mem_range.1 hi')).2.2 n hn
    · have hil : i < len := by have := (List.getElem?_eq_some_iff.1 h1).1; rwa [hlen] at this
      have e1 : (f i).1 = sv := by rw [List.getElem?_map, List.getElem?_range hil] at h1; exact Option.some.inj h1
      have e2 : (f i).2 = l := by rw [List.getElem?_map, List.getElem?_range hil] at h2; exact Option.some.inj h2
      subst e1; subst e2
      exact (hf i hil).2.1
set_option maxRecDepth 100000 in
theorem open_plan {n : Nat} {cs : List Value} {y : DataW H × List MemPlace} (h : DataW.trod enc Tryd.prog w base spare held n 46 cs = some y) :
    ∃ (a : Int) (ba : Option Addr) (bc : Nat) (svs : List SlV) (B : List (List Int)) (ia : Option Addr) (ic : Nat) (I : List Int), cs = [.int .i64 a, .slice ba svs.length bc, .slice ia I.length ic] ∧ okI a ∧ PlanIn w ba bc svs B ia ic I := by
  obtain ⟨xs, n', _, hx, hlen, hxl, hf⟩ := DataW.trod_struct Tryd.underlying46 h
  rw [cellsF.2.2.2] at hlen
  match cs, hlen with
  | [c0, c1, c2], _ =>
    match xs, hxl with
    | [y0, y1, y2], _ =>
      have h0 : DataW.trod enc Tryd.prog w base spare held n' 3 [c0] = some y0 := by have := hf 0 _ rfl; simpa [cellsF] using this
      have h1 : DataW.trod enc Tryd.prog w base spare held n' 43 [c1] = some y1 := by have := hf 1 _ rfl; simpa [cellsF] using this
      have h2 : DataW.trod enc Tryd.prog w base spare held n' 44 [c2] = some y2 := by have := hf 2 _ rfl; simpa [cellsF] using this
      obtain ⟨a, e0, _, oa⟩ := DataW.trod_int Tryd.underlying3 h0
      simp only [List.cons.injEq, and_true] at e0
      subst e0
      obtain ⟨ba, c, svs, rows, rfl, s0, s1, s3, s2⟩ := open_rowsF h1
      obtain ⟨l, t0, t2⟩ := open_intsF h2
      have t1 := t0
      obtain ⟨ia, ic, rfl, _⟩ := t1
      exact ⟨a, ba, c, svs, rows, ia, ic, l, rfl, oa, fun W' hW => s0.keep fun p v hp => cellBelow hp hW, ⟨s1, fun i sv l h1 h2 W' hW => (s2 i sv l h1 h2).keep fun p v hp => cellBelow hp hW⟩, fun W' hW => t0.keep fun p v hp => cellBelow hp hW, s3, t2⟩
end
end Go.Proofs.YtobcnffjfclolaaDoor
/- ch 15: the heap of a plan: the walk. -/
namespace Go.Proofs.YtobcnffjfclolaaDoor
set_option linter.unusedSimpArgs false
open Go.RowKit
set_option linter.unusedVariables false
section
variable {w W : World} {Rs : List Res} {h : Nat} {H : HeapM} {ba ia : Option Addr} {bc ic : Nat} {svs : List SlV} {B : List (List Int)} {I : List Int}
theorem strs_cellF (T : Sep w Rs W) {g c : Nat} (j : Nat) (hj : Rs[j]? = some (strsR (.slice (some ⟨g, 0, none⟩) 17 c) (takeN 17))) {i : Nat} (hi : i < 17) : W.cell? ⟨g, i, none⟩ = some (.string (nameF i)) := by
  have hx : (takeN 17)[i]? = some (nameF i) := by unfold takeN; rw [List.getElem?_map, List.getElem?_range hi]; rfl
  have := (T.row j hj).cell (f := strCell) (m := 1) (fun _ => rfl) rfl hx (j := 0) (u := .string (nameF i)) rfl
  simpa using this
theorem SeesR.slotF {a : Option Addr} {n c : Nat} {svs : List SlV} (h : SeesR slCellN 1 W (.slice a n c) svs) {k : Nat} {sv : SlV} (hk : svs[k]? = some sv) : ∃ g o, a = some ⟨g, o, none⟩ ∧ W.cell? ⟨g, o + k, none⟩ = some sv.val := by
  obtain ⟨_, _, e, _, _, hh⟩ := h
  cases e
  rcases hh with hh | ⟨g, o, hh, hc⟩
  · subst hh; simp at hk
  · exact ⟨g, o, hh, by have := hc k sv hk 0 sv.val rfl; simpa using this⟩
theorem seesV_nilF (W : World) : SeesV W (.slice none 0 0) [] := ⟨none, 0, rfl, by simp, by simp, .inl rfl⟩
theorem seesV_take {W : World} {a : Option Addr} {n c m : Nat} {l : List V} (h : SeesV W (.slice a n c) l) (hm : m ≤ n) : SeesV W (.slice a m c) (l.take m) := by
  obtain ⟨a', c', e, h1, h2, h3⟩ := h
  obtain ⟨rfl, rfl, rfl⟩ := Value.slice.inj e
  have hl : (l.take m).length = m := by rw [List.length_take]; omega
  refine ⟨a, c, by rw [hl], by rw [hl]; omega, h2, ?_⟩
  rcases h3 with h3 | ⟨g, o, h3, h4⟩
  · left; rw [h3]; simp
  · refine .inr ⟨g, o, h3, fun i v hv => h4 i v ?_⟩
    have hi : i < m := by have := (List.getElem?_eq_some_iff.1 hv).1; rwa [hl] at this
    rwa [List.getElem?_take, if_pos hi] at hv
theorem sliced_zero (a : Option Addr) (m c : Nat) (hm : m ≤ c) (h0 : 0 < m) : sliced a 0 m c 3 = .slice a m c := by
  unfold sliced
  have : ¬ c = 0 := by omega
  cases a with
  | none => simp
  | some p => simp [this, Addr.add]
abbrev planB (b : Nat) (a : Int) (ba : Option Addr) (n bc : Nat) (ia : Option Addr) (m ic : Nat) : Res := boxR b (.cells #[.int .i64 a, .slice ba n bc, .slice ia m ic] 46)
set_option maxRecDepth 100000 in
set_option maxHeartbeats 12800000 in
theorem laid_ok (S : Sep w Rs W) (hG : GlobF w) (P : PlanIn w ba bc svs B ia ic I) (a : Int) (ha : a ≤ 20) (hB : B.length ≤ 20) (hr6 : ∀ r ∈ B, r.length ≤ 6) (hI : I.length ≤ 20) :
    Calls Tryd.prog 22 #[.agg #[.int .i64 a, .slice ba svs.length bc, .slice ia I.length ic]] W fun e W' => ∃ (h : Nat) (oa : Option Addr) (oc : Nat), e = .returned (.tuple #[.pointer (some ⟨h, 0, none⟩), .agg #[.int .i64 4, .int .i64 ((a.toNat : Int) + 19), .string ⟨#[]⟩], .slice oa (laidM a.toNat B I).2.length oc]) ∧
      Sep w (valsR (.slice oa (laidM a.toNat B I).2.length oc) (laidM a.toNat B I).2 :: heapR h (laidM a.toNat B I).1 :: Rs) W' := by
  obtain ⟨n, hn⟩ : ∃ n, n = a.toNat := ⟨_, rfl⟩
  rw [← hn]
  have hn20 : n ≤ 20 := by omega
  obtain ⟨b, hb⟩ : ∃ gx_, (W.heap.size) = gx_ := ⟨_, rfl⟩
  have S1 := (S.alloc (.cells #[.int .i64 a, .slice ba svs.length bc, .slice ia I.length ic] 46)).alloc (.cells #[.int .i64 0, .int .i64 0, .string ⟨#[]⟩] 31)
  simp only [World.size_alloc, hb] at S1
  have N0 := Lib.hid S1.new
  have hsl : (svs.length : Int) ≤ 20 := by have := P.ins.1; omega
  have hil : (I.length : Int) ≤ 20 := by omega
  have HIN := Lib.hid P
  have HGL := Lib.hid hG
  have HZ := Lib.hid (And.intro hn (And.intro hn20 (And.intro hB (And.intro hr6 hI))))
  clear S S1 P hG hn hr6 hB hI hn20
  go_enter Tryd.func22, Tryd.ntmps22
  go_wp2_with fail
  try simp only [hb]
  refine N0.out.mono ?_
  rintro e w1 ⟨h, rfl, S2, -⟩
  clear N0 hb
  replace S2 : Hid (Sep w (heapR h (aheadM 0) :: zeroB (b + 1) :: planB b a ba svs.length bc ia I.length ic :: Rs) w1) := Lib.hid S2
  go_wp2
  go_loopw [6] (fun iv wr => ∃ k : Nat, k ≤ n ∧ iv = .int .i64 k ∧ Sep w (heapR h (aheadM k) :: zeroB (b + 1) :: planB b a ba svs.length bc ia I.length ic :: Rs) wr) (fun iv _ => n - (intOf iv).toNat)
  case atStart => exact ⟨0, by omega, rfl, S2.out⟩
  case round =>
    clear S2
    obtain ⟨k, hk, rfl, S3⟩ := hrel
    have c0 := cellAt (S3.box (b := b) 2 rfl) 0 (v := .int .i64 a) rfl
    have hk20 : (k : Int) ≤ 20 := by have := HZ.out.2.1; omega
    by_cases hka : (k : Int) < a
    · have C := S3.make 0 rfl (aheadM_in k).1.G (by omega) aheadO (.slice none 0 0) (seesV_nilF _) (by simp [aheadO]) rfl (by simp [aheadO]) (by simp [aheadO])
      replace C : Hid (Calls Tryd.prog 24 #[.pointer (some ⟨h, 0, none⟩), .int .i64 1, .string ⟨#[97, 104, 101, 97, 100]⟩, .int .i64 0, .slice none 0 0] wr fun e W' => e = .returned (.agg #[.int .i64 4, .int .i64 ((aheadM k).last + 1), .string ⟨#[]⟩]) ∧ Sep w (heapR h ((aheadM k).add aheadO) :: zeroB (b + 1) :: planB b a ba svs.length bc ia I.length ic :: Rs) W') := Lib.hid (C.mono fun e W' hh => ⟨hh.1, hh.2⟩)
      clear S3
      go_wp2_with fail
      refine C.out.mono ?_
      rintro e w2 ⟨rfl, S4⟩
      rw [← aheadM_succ] at S4
      replace S4 := Lib.hid S4
      clear C c0
      go_wp2
      refine ⟨⟨k + 1, by have := HZ.out.1; omega, by go_num, S4.out⟩, by have := HZ.out.1; simp [intOf]; omega⟩
    · have e : k = n := by have := HZ.out.1; omega
      subst e
      have C := boot_ok S3 HGL.out 0 rfl (aheadM_in k).1 (aheadM_in k).2 (by omega)
      replace C : Hid (Calls Tryd.prog 15 #[.pointer (some ⟨h, 0, none⟩)] wr fun e W' => e = .returned (.agg #[.int .i64 4, .int .i64 ((k : Int) + 19), .string ⟨#[]⟩]) ∧ Sep w (heapR h (bootM (aheadM k)) :: zeroB (b + 1) :: planB b a ba svs.length bc ia I.length ic :: Rs) W') := Lib.hid C
      clear S3
      go_wp2_with fail
      refine C.out.mono ?_
      rintro e w2 ⟨rfl, S4⟩
      clear C c0 hka
      have S5 := (S4.alloc (.cells #[.int .i64 4, .int .i64 ((k : Int) + 19), .string ⟨#[]⟩] 31)).madeRow V.cells 3 31
      obtain ⟨q, hq⟩ : ∃ gx_, (w2.heap.size) = gx_ := ⟨_, rfl⟩
      simp only [World.size_alloc, hq] at S5
      have C := Lib.hid (fnames_ok S5 HGL.out)
      clear S4 S5
      go_wp2_with fail
      try simp only [World.size_alloc, hq]
      refine C.out.mono ?_
      rintro e w3 ⟨na, nc, rfl, S6⟩
      clear C hq
      obtain ⟨g, rfl⟩ : ∃ g, na = some ⟨g, 0, none⟩ := by
        rcases (S6.row 0 rfl).shape with ⟨h1, h2⟩ | ⟨g, cap, h1, _⟩
        · exact absurd (congrArg List.length h2) (by rw [takeN_len]; decide)
        · exact ⟨g, (Value.slice.inj h1).1⟩
      have S7 := Lib.hid S6.swap
      clear S6
      go_wp2
      go_loopw [8, 10] (fun lv iv wr => ∃ (j : Nat) (oa : Option Addr) (oc : Nat), j ≤ 17 ∧ iv = .int .i64 j ∧ lv = .slice oa j oc ∧ Sep w (valsR (.slice oa j oc) (clsL (k : Int) j) :: strsR (.slice (some ⟨g, 0, none⟩) 17 nc) (takeN 17) :: boxR q (.cells #[.int .i64 4, .int .i64 ((k : Int) + 19), .string ⟨#[]⟩] 31) :: heapR h (bootM (aheadM k)) :: zeroB (b + 1) :: planB b a ba svs.length bc ia I.length ic :: Rs) wr) (fun _ iv _ => 17 - (intOf iv).toNat)
      case atStart => exact ⟨0, _, _, by omega, rfl, rfl, S7.out⟩
      case round =>
        clear S7
        obtain ⟨j, oa, oc, hj, rfl, rfl, S⟩ := hrel
        have hj17 : (j : Int) ≤ 17 := by omega
        by_cases hjl : j < 17
        · have hj1 : (j : Int) < 17 := by omega
          have hj0 : (0 : Int) ≤ j := by omega
          have HJ := Lib.hid hjl
          obtain ⟨jn, hjn⟩ : ∃ jn, jn = (k : Int) + 2 + (j : Int) := ⟨_, rfl⟩
          have hok : okI ((k : Int) + 2 + (j : Int)) := okI_of ⟨by omega, by omega⟩
          have hokn : okI jn := by rw [hjn]; exact hok
          have hokb : okI ((k : Int) + 19) := okI_of ⟨by omega, by omega⟩
          have hget : (bootM (aheadM k)).get (V.ref ((k : Int) + 19) hokb) (keyF j) = some (V.ref jn hokn) := by
            have h1 := (boot_in k HZ.out.2.1).boot.get hokb hjl
            rw [refN_ok hok] at h1
            subst hjn
            exact h1
          have HGET := Lib.hid hget
          obtain ⟨baseA, hbaseA⟩ : ∃ base, base = valsR (.slice oa j oc) (clsL (k : Int) j) :: strsR (.slice (some ⟨g, 0, none⟩) 17 nc) (takeN 17) :: boxR q (.cells #[.int .i64 4, .int .i64 ((k : Int) + 19), .string ⟨#[]⟩] 31) :: heapR h (bootM (aheadM k)) :: zeroB (b + 1) :: planB b a ba svs.length bc ia I.length ic :: Rs := ⟨_, rfl⟩
          have HbaseA := Lib.hid hbaseA
          have KbaseA : Hid (∀ W (Q : List Res), Sep w (Q ++ baseA) W → W.cell? ⟨q, 0, none⟩ = some (.int .i64 4) ∧ W.cell? ⟨q, 1, none⟩ = some (.int .i64 ((k : Int) + 19)) ∧ W.cell? ⟨q, 2, none⟩ = some (.string ⟨#[]⟩) ∧ W.cell? ⟨g, j, none⟩ = some (.string (nameF j))) := Lib.hid fun W Q T => by
            rw [hbaseA] at T
            have i0 := T.box (b := q) (o := .cells #[.int .i64 4, .int .i64 ((k : Int) + 19), .string ⟨#[]⟩] 31) (Q.length + 2) (by rw [List.getElem?_append_right (by omega), Nat.add_sub_cancel_left]; rfl)
            exact ⟨cellAt i0 0 rfl, cellAt i0 1 rfl, cellAt i0 2 rfl, strs_cellF T (Q.length + 1) (by rw [List.getElem?_append_right (by omega), Nat.add_sub_cancel_left]; rfl) HJ.out⟩
          have KY : Hid (∀ W (Q : List Res), Sep w (Q ++ baseA) W → Calls Tryd.prog 18 #[.string (nameF j)] W fun e W' => e = .returned (.agg #[.int .i64 3, .int .i64 0, .string (nameF j)]) ∧ Sep w (Q ++ baseA) W') := Lib.hid fun W Q T => by
            exact (ltext_ok W _).mono fun e W' ⟨e1, e2⟩ => ⟨e1, T.later e2⟩
          have KG : Hid (∀ W (Q : List Res), Sep w (Q ++ baseA) W → Calls Tryd.prog 17 #[.pointer (some ⟨h, 0, none⟩), .agg #[.int .i64 4, .int .i64 ((k : Int) + 19), .string ⟨#[]⟩], .agg #[.int .i64 3, .int .i64 0, .string (nameF j)]] W fun e W' => e = .returned (.tuple #[.agg #[.int .i64 4, .int .i64 jn, .string ⟨#[]⟩], .bool true]) ∧ Sep w (Q ++ baseA) W') := Lib.hid fun W Q T => by
            rw [HbaseA.out] at T ⊢
            have hh := T.get_ (Q.length + 3) (by rw [List.getElem?_append_right (by omega), Nat.add_sub_cancel_left]; rfl) (V.ref ((k : Int) + 19) hokb) (keyF j)
            rw [HGET.out] at hh
            exact hh.mono fun e W' ⟨e1, e2, _⟩ => ⟨e1, e2⟩
          have HJN := Lib.hid (And.intro hjn (And.intro hok hokn))
          clear hget hok hjl hjn
          replace S : Sep w (baseA) wr := by rw [hbaseA]; exact S
          replace S := Lib.hid S
          clear hbaseA
          go_upto_region 14 with fail
          go_cut [11] from 38 to 54 (fun s11 wx => ∃ qx, s11 = .pointer (some ⟨qx, 0, none⟩) ∧ Sep w (boxR qx (.cells #[.int .i64 4, .int .i64 jn, .string ⟨#[]⟩] 31) :: baseA) wx)
          case first =>
            have T0 : Sep w ([] ++ baseA) _ := S.out.drew
            clear S
            as_aux_lemma =>
              refine wp_region_held_drew (S := fun W => W.cell? ⟨q, 0, none⟩ = some (.int .i64 4) ∧ W.cell? ⟨q, 1, none⟩ = some (.int .i64 ((k : Int) + 19)) ∧ W.cell? ⟨q, 2, none⟩ = some (.string ⟨#[]⟩) ∧ W.cell? ⟨g, j, none⟩ = some (.string (nameF j))) (by kernel_rfl) (KbaseA.out _ [] T0) (fun hH => ?_)
              refine takeT 0 hH (hy := .inl ⟨by rfl, by (intro w hSw; try obtain ⟨u0, u1, u2, v0⟩ := hSw); (go_simp; try rfl)⟩) (h := ?_)
              simp only [Act.put, List.setIfInBounds_toArray, List.set_cons_zero, List.set_cons_succ]
              refine takeT 1 hH (hy := .inl ⟨by rfl, by (intro w hSw; try obtain ⟨u0, u1, u2, v0⟩ := hSw); (go_simp; try rfl)⟩) (h := ?_)
              simp only [Act.put, List.setIfInBounds_toArray, List.set_cons_zero, List.set_cons_succ]
              refine takeT 2 hH (hy := .inl ⟨by rfl, by (intro w hSw; try obtain ⟨u0, u1, u2, v0⟩ := hSw); (go_simp; try rfl)⟩) (h := ?_)
              simp only [Act.put, List.setIfInBounds_toArray, List.set_cons_zero, List.set_cons_succ]
              refine takeT 3 hH (hy := .inl ⟨by rfl, by (intro w hSw; try obtain ⟨u0, u1, u2, v0⟩ := hSw); (go_simp; try rfl)⟩) (h := ?_)
              simp only [Act.put, List.setIfInBounds_toArray, List.set_cons_zero, List.set_cons_succ]
              refine takeT 4 hH (hy := .inl ⟨by rfl, by (intro w hSw; try obtain ⟨u0, u1, u2, v0⟩ := hSw); (go_simp; try rfl)⟩) (h := ?_)
              simp only [Act.put, List.setIfInBounds_toArray, List.set_cons_zero, List.set_cons_succ]
              refine takeT 5 hH (hy := .inl ⟨by rfl, by (intro w hSw; try obtain ⟨u0, u1, u2, v0⟩ := hSw); (go_simp; try rfl)⟩) (h := ?_)
              simp only [Act.put, List.setIfInBounds_toArray, List.set_cons_zero, List.set_cons_succ]
              refine readyT [6, 11] ?_
              refine consT (fun K hK => ?_) (consT (fun K hK => ?_) AllReadyH.nil)
              · go_simp
                go_wp2_with (go_at_call 18; refine (KY.out _ [] T0).mono ?_; rintro e w1 ⟨rfl, T1⟩)
                clear hH
                refine hK.out _ _ (KbaseA.out _ [] T1) (fun hH => ?_)
                clear hK K
                refine readyT [7, 11] ?_
                refine consT (fun K hK => ?_) (consT (fun K hK => ?_) AllReadyH.nil)
                · go_simp
                  go_wp2_with (go_at_call 17; refine (KG.out _ [] T1).mono ?_; rintro e w2 ⟨rfl, T2⟩)
                  clear hH
                  refine hK.out _ _ (KbaseA.out _ [] T2) (fun hH => ?_)
                  clear hK K
                  refine takeT 8 hH (hy := .inl ⟨by rfl, by (intro w hSw; try obtain ⟨u0, u1, u2, v0⟩ := hSw); (go_simp; try rfl)⟩) (h := ?_)
                  simp only [Act.put, List.setIfInBounds_toArray, List.set_cons_zero, List.set_cons_succ]
                  refine takeT 9 hH (hy := .inl ⟨by rfl, by (intro w hSw; try obtain ⟨u0, u1, u2, v0⟩ := hSw); (go_simp; try rfl)⟩) (h := ?_)
                  simp only [Act.put, List.setIfInBounds_toArray, List.set_cons_zero, List.set_cons_succ]
                  refine takeT 10 hH (hy := .inl ⟨by rfl, by (intro w hSw; try obtain ⟨u0, u1, u2, v0⟩ := hSw); (go_simp; try rfl)⟩) (h := ?_)
                  simp only [Act.put, List.setIfInBounds_toArray, List.set_cons_zero, List.set_cons_succ]
                  refine readyT [11] ?_
                  refine consT (fun K hK => ?_) AllReadyH.nil
                  go_simp
                  have T3 : Sep w ([boxR _ (.cells #[.int .i64 0, .int .i64 0, .string ⟨#[]⟩] 31)] ++ baseA) _ := Sep.alloc T2 (.cells #[.int .i64 0, .int .i64 0, .string ⟨#[]⟩] 31)
                  try simp only [size_drew, World.size_alloc] at T3
                  clear hH
                  refine hK.out _ _ (KbaseA.out _ [_] T3) (fun hH => ?_)
                  clear hK K
                  refine readyT [12] ?_
                  refine consT (fun K hK => ?_) AllReadyH.nil
                  have hz := T3.box 0 rfl
                  have z0 := cellAt hz 0 (v := .int .i64 0) rfl
                  have z1 := cellAt hz 1 (v := .int .i64 0) rfl
                  have z2 := cellAt hz 2 (v := .string ⟨#[]⟩) rfl
                  have z3 := frozenAt hz 0
                  have z4 := frozenAt hz 1
                  have z5 := frozenAt hz 2
                  try simp only [World.cell?_drew, World.frozen?_drew] at z0 z1 z2 z3 z4 z5
                  go_simp
                  clear hz z0 z1 z2 z3 z4 z5
                  clear hH
                  first | (have T4 : Sep w ([boxR _ (.cells #[.int .i64 4, .int .i64 jn, .string ⟨#[]⟩] 31)] ++ baseA) _ := (Sep.alloc T2 (.cells #[.int .i64 4, .int .i64 jn, .string ⟨#[]⟩] 31)); (try simp only [size_drew, World.size_alloc] at T4); refine hK.out _ _ (KbaseA.out _ [_] T4) (fun hH => ?_)) | (have T4 : Sep w ([boxR _ (.cells #[.int .i64 4, .int .i64 jn, .string ⟨#[]⟩] 31)] ++ baseA) _ := (Sep.setBox (cs := #[.int .i64 4, .int .i64 jn, .string ⟨#[]⟩]) (t := 31) (Sep.setBox (cs := #[.int .i64 4, .int .i64 0, .string ⟨#[]⟩]) (t := 31) (Sep.setBox (cs := #[.int .i64 0, .int .i64 0, .string ⟨#[]⟩]) (t := 31) T3 0 rfl 0 (.int .i64 4)) 0 rfl 1 (.int .i64 jn)) 0 rfl 2 (.string ⟨#[]⟩)); (try simp only [size_drew, World.size_alloc] at T4); refine hK.out _ _ (KbaseA.out _ [_] T4) (fun hH => ?_))
                  clear hK K
                  refine takeT 13 hH (hy := .inl ⟨by rfl, by (intro w hSw; try obtain ⟨u0, u1, u2, v0⟩ := hSw); (go_simp; try rfl)⟩) (h := ?_)
                  simp only [Act.put, List.setIfInBounds_toArray, List.set_cons_zero, List.set_cons_succ]
                  refine wpAnyH_done (by kernel_rfl) ?_ _
                  as_aux_lemma =>
                    go_wp2_with fail
                    go_meet
                    exact ⟨_, rfl, T4⟩
                · go_simp
                  have T5 : Sep w ([boxR _ (.cells #[.int .i64 0, .int .i64 0, .string ⟨#[]⟩] 31)] ++ baseA) _ := Sep.alloc T1 (.cells #[.int .i64 0, .int .i64 0, .string ⟨#[]⟩] 31)
                  try simp only [size_drew, World.size_alloc] at T5
                  clear hH
                  refine hK.out _ _ (KbaseA.out _ [_] T5) (fun hH => ?_)
                  clear hK K
                  refine readyT [7] ?_
                  refine consT (fun K hK => ?_) AllReadyH.nil
                  go_simp
                  go_wp2_with (go_at_call 17; refine (KG.out _ [_] T5).mono ?_; rintro e w6 ⟨rfl, T6⟩)
                  clear hH
                  refine hK.out _ _ (KbaseA.out _ [_] T6) (fun hH => ?_)
                  clear hK K
                  refine takeT 8 hH (hy := .inl ⟨by rfl, by (intro w hSw; try obtain ⟨u0, u1, u2, v0⟩ := hSw); (go_simp; try rfl)⟩) (h := ?_)
                  simp only [Act.put, List.setIfInBounds_toArray, List.set_cons_zero, List.set_cons_succ]
                  refine takeT 9 hH (hy := .inl ⟨by rfl, by (intro w hSw; try obtain ⟨u0, u1, u2, v0⟩ := hSw); (go_simp; try rfl)⟩) (h := ?_)
                  simp only [Act.put, List.setIfInBounds_toArray, List.set_cons_zero, List.set_cons_succ]
                  refine takeT 10 hH (hy := .inl ⟨by rfl, by (intro w hSw; try obtain ⟨u0, u1, u2, v0⟩ := hSw); (go_simp; try rfl)⟩) (h := ?_)
                  simp only [Act.put, List.setIfInBounds_toArray, List.set_cons_zero, List.set_cons_succ]
                  refine readyT [12] ?_
                  refine consT (fun K hK => ?_) AllReadyH.nil
                  have hz := T6.box 0 rfl
                  have z0 := cellAt hz 0 (v := .int .i64 0) rfl
                  have z1 := cellAt hz 1 (v := .int .i64 0) rfl
                  have z2 := cellAt hz 2 (v := .string ⟨#[]⟩) rfl
                  have z3 := frozenAt hz 0
                  have z4 := frozenAt hz 1
                  have z5 := frozenAt hz 2
                  try simp only [World.cell?_drew, World.frozen?_drew] at z0 z1 z2 z3 z4 z5
                  go_simp
                  clear hz z0 z1 z2 z3 z4 z5
                  clear hH
                  have T7 : Sep w ([boxR _ (.cells #[.int .i64 4, .int .i64 jn, .string ⟨#[]⟩] 31)] ++ baseA) _ := (Sep.setBox (cs := #[.int .i64 4, .int .i64 jn, .string ⟨#[]⟩]) (t := 31) (Sep.setBox (cs := #[.int .i64 4, .int .i64 0, .string ⟨#[]⟩]) (t := 31) (Sep.setBox (cs := #[.int .i64 0, .int .i64 0, .string ⟨#[]⟩]) (t := 31) T6 0 rfl 0 (.int .i64 4)) 0 rfl 1 (.int .i64 jn)) 0 rfl 2 (.string ⟨#[]⟩))
                  try simp only [size_drew, World.size_alloc] at T7
                  refine hK.out _ _ (KbaseA.out _ [_] T7) (fun hH => ?_)
                  clear hK K
                  refine takeT 13 hH (hy := .inl ⟨by rfl, by (intro w hSw; try obtain ⟨u0, u1, u2, v0⟩ := hSw); (go_simp; try rfl)⟩) (h := ?_)
                  simp only [Act.put, List.setIfInBounds_toArray, List.set_cons_zero, List.set_cons_succ]
                  refine wpAnyH_done (by kernel_rfl) ?_ _
                  as_aux_lemma =>
                    go_wp2_with fail
                    go_meet
                    exact ⟨_, rfl, T7⟩
              · go_simp
                have T8 : Sep w ([boxR _ (.cells #[.int .i64 0, .int .i64 0, .string ⟨#[]⟩] 31)] ++ baseA) _ := Sep.alloc T0 (.cells #[.int .i64 0, .int .i64 0, .string ⟨#[]⟩] 31)
                try simp only [size_drew, World.size_alloc] at T8
                clear hH
                refine hK.out _ _ (KbaseA.out _ [_] T8) (fun hH => ?_)
                clear hK K
                refine readyT [6] ?_
                refine consT (fun K hK => ?_) AllReadyH.nil
                go_simp
                go_wp2_with (go_at_call 18; refine (KY.out _ [_] T8).mono ?_; rintro e w9 ⟨rfl, T9⟩)
                clear hH
                refine hK.out _ _ (KbaseA.out _ [_] T9) (fun hH => ?_)
                clear hK K
                refine readyT [7] ?_
                refine consT (fun K hK => ?_) AllReadyH.nil
                go_simp
                go_wp2_with (go_at_call 17; refine (KG.out _ [_] T9).mono ?_; rintro e w10 ⟨rfl, T10⟩)
                clear hH
                refine hK.out _ _ (KbaseA.out _ [_] T10) (fun hH => ?_)
                clear hK K
                refine takeT 8 hH (hy := .inl ⟨by rfl, by (intro w hSw; try obtain ⟨u0, u1, u2, v0⟩ := hSw); (go_simp; try rfl)⟩) (h := ?_)
                simp only [Act.put, List.setIfInBounds_toArray, List.set_cons_zero, List.set_cons_succ]
                refine takeT 9 hH (hy := .inl ⟨by rfl, by (intro w hSw; try obtain ⟨u0, u1, u2, v0⟩ := hSw); (go_simp; try rfl)⟩) (h := ?_)
                simp only [Act.put, List.setIfInBounds_toArray, List.set_cons_zero, List.set_cons_succ]
                refine takeT 10 hH (hy := .inl ⟨by rfl, by (intro w hSw; try obtain ⟨u0, u1, u2, v0⟩ := hSw); (go_simp; try rfl)⟩) (h := ?_)
                simp only [Act.put, List.setIfInBounds_toArray, List.set_cons_zero, List.set_cons_succ]
                refine readyT [12] ?_
                refine consT (fun K hK => ?_) AllReadyH.nil
                have hz := T10.box 0 rfl
                have z0 := cellAt hz 0 (v := .int .i64 0) rfl
                have z1 := cellAt hz 1 (v := .int .i64 0) rfl
                have z2 := cellAt hz 2 (v := .string ⟨#[]⟩) rfl
                have z3 := frozenAt hz 0
                have z4 := frozenAt hz 1
                have z5 := frozenAt hz 2
                try simp only [World.cell?_drew, World.frozen?_drew] at z0 z1 z2 z3 z4 z5
                go_simp
                clear hz z0 z1 z2 z3 z4 z5
                clear hH
                have T11 : Sep w ([boxR _ (.cells #[.int .i64 4, .int .i64 jn, .string ⟨#[]⟩] 31)] ++ baseA) _ := (Sep.setBox (cs := #[.int .i64 4, .int .i64 jn, .string ⟨#[]⟩]) (t := 31) (Sep.setBox (cs := #[.int .i64 4, .int .i64 0, .string ⟨#[]⟩]) (t := 31) (Sep.setBox (cs := #[.int .i64 0, .int .i64 0, .string ⟨#[]⟩]) (t := 31) T10 0 rfl 0 (.int .i64 4)) 0 rfl 1 (.int .i64 jn)) 0 rfl 2 (.string ⟨#[]⟩))
                try simp only [size_drew, World.size_alloc] at T11
                refine hK.out _ _ (KbaseA.out _ [_] T11) (fun hH => ?_)
                clear hK K
                refine takeT 13 hH (hy := .inl ⟨by rfl, by (intro w hSw; try obtain ⟨u0, u1, u2, v0⟩ := hSw); (go_simp; try rfl)⟩) (h := ?_)
                simp only [Act.put, List.setIfInBounds_toArray, List.set_cons_zero, List.set_cons_succ]
                refine wpAnyH_done (by kernel_rfl) ?_ _
                as_aux_lemma =>
                  go_wp2_with fail
                  go_meet
                  exact ⟨_, rfl, T11⟩
          case rest =>
            obtain ⟨q5, rfl, S⟩ := hcut
            rw [HbaseA.out] at S
            clear KY KG KbaseA HbaseA
            replace S : Sep w (boxR q5 (.cells #[.int .i64 4, .int .i64 jn, .string ⟨#[]⟩] 31) :: valsR (.slice oa j oc) (clsL (k : Int) j) :: strsR (.slice (some ⟨g, 0, none⟩) 17 nc) (takeN 17) :: boxR q (.cells #[.int .i64 4, .int .i64 ((k : Int) + 19), .string ⟨#[]⟩] 31) :: heapR h (bootM (aheadM k)) :: zeroB (b + 1) :: planB b a ba svs.length bc ia I.length ic :: Rs) _ := S
            have d0 := cellAt (S.box (b := q5) 0 rfl) 0 (v := .int .i64 4) rfl
            have d1 := cellAt (S.box (b := q5) 0 rfl) 1 (v := .int .i64 jn) rfl
            have d2 := cellAt (S.box (b := q5) 0 rfl) 2 (v := .string ⟨#[]⟩) rfl
            have S8 := S.alloc (.cells #[.int .i64 4, .int .i64 jn, .string ⟨#[]⟩] 31)
            have hone := Lib.hid (sees_one (f := V.cells) (m := 3) (y := V.ref jn hokn) (heapAllocNew wc (.cells #[.int .i64 4, .int .i64 jn, .string ⟨#[]⟩] 31)) rfl)
            have hlen : (clsL (k : Int) j).length = j := clsL_len _ _
            replace S8 := Lib.hid S8
            have HLN := Lib.hid hlen
            clear S hlen
            go_wp2_with (at_builtin; refine wpList_append_rows rfl _ _ 48 31 rfl Tryd.underlying48 _ 32 info_val rfl (by decide) (by decide) V.cells_len (by intro p u hu; simp [V.cells] at hu; rcases hu with rfl | rfl | rfl <;> rfl) S8.out 2 rfl rfl _ [V.ref jn hokn] rfl hone.out (by rw [HLN.out]; simp; omega) ?_)
            intro va vc w6 S9
            have S10 : Hid (Sep w (valsR (.slice va (j + 1) vc) (clsL (k : Int) (j + 1)) :: strsR (.slice (some ⟨g, 0, none⟩) 17 nc) (takeN 17) :: boxR q (.cells #[.int .i64 4, .int .i64 ((k : Int) + 19), .string ⟨#[]⟩] 31) :: heapR h (bootM (aheadM k)) :: zeroB (b + 1) :: planB b a ba svs.length bc ia I.length ic :: Rs) w6) := Lib.hid (by
              have h1 := S9.tail.tail
              have e : clsL (k : Int) (j + 1) = clsL (k : Int) j ++ [V.ref jn hokn] := by rw [clsL_succ, refN_ok HJN.out.2.1]; exact congrArg (fun z => clsL (k : Int) j ++ [z]) (ref_eq HJN.out.1.symm)
              rw [e]
              rw [HLN.out] at h1
              exact h1)
            rw [HLN.out]
            clear S8 S9 hone HGET d0 d1 d2 HJN HLN
            go_wp2
            refine ⟨⟨j + 1, _, _, by have := HJ.out; omega, by go_num, by simp, S10.out⟩, by have := HJ.out; simp [intOf]; omega⟩
        · have e : j = 17 := by omega
          subst e
          obtain ⟨X, hX⟩ : ∃ X : Nat → HeapM × List V, X = fun i => rowsM (bootS k) (B.take i) := ⟨_, rfl⟩
          have hX0 : X 0 = bootS k := by rw [hX]; rfl
          have HXA : Hid (∀ i, i ≤ B.length → LaidA (X i) (k : Int) (1140 + 200 * i) i) := Lib.hid (by rw [hX]; exact rows_in k HZ.out.2.1 B HZ.out.2.2.1)
          have HXS : Hid (∀ (i : Nat) (r : List Int), B[i]? = some r → X (i + 1) = rowStep (X i) r) := Lib.hid (by
            rw [hX]; intro i r hi
            obtain ⟨h1, h2⟩ := List.getElem?_eq_some_iff.1 hi
            subst h2
            exact foldl_take _ _ _ h1)
          have HXE : Hid (X B.length = rowsM (bootS k) B) := Lib.hid (by rw [hX]; simp)
          have hlen : (X 0).2.length = 17 := by rw [hX0]; exact clsL_len _ _
          have S8 : Hid (Sep w (valsR (.slice oa (X 0).2.length oc) (X 0).2 :: heapR h (X 0).1 :: boxR q (.cells #[.int .i64 4, .int .i64 ((k : Int) + 19), .string ⟨#[]⟩] 31) :: zeroB (b + 1) :: planB b a ba svs.length bc ia I.length ic :: Rs) wr) := Lib.hid (by
            rw [hlen, hX0]
            exact (S.sub (.cons_cons _ (.cons _ (List.Sublist.refl _)))).perm (.cons _ (.swap _ _ _)))
          have HLN := Lib.hid hlen
          clear S hX hX0 hlen hj hj17 hjl
          go_wp2
          go_loopw [8, 13] (fun lv iv wr => ∃ (i : Nat) (oa : Option Addr) (oc : Nat), i ≤ B.length ∧ iv = .int .i64 i ∧ lv = .slice oa (X i).2.length oc ∧ Sep w (valsR (.slice oa (X i).2.length oc) (X i).2 :: heapR h (X i).1 :: boxR q (.cells #[.int .i64 4, .int .i64 ((k : Int) + 19), .string ⟨#[]⟩] 31) :: zeroB (b + 1) :: planB b a ba svs.length bc ia I.length ic :: Rs) wr) (fun _ iv _ => B.length - (intOf iv).toNat)
          case atStart => exact ⟨0, oa, oc, by omega, rfl, by rw [HLN.out], S8.out⟩
          case round =>
            clear S8 HLN
            obtain ⟨i, ob, od, hi, rfl, rfl, S⟩ := hrel
            have cB := cellAt (S.box (b := b) 4 rfl) 1 (v := .slice ba svs.length bc) rfl
            have hi20 : (i : Int) ≤ 20 := by have := HZ.out.2.2.1; omega
            have XA := HXA.out i hi
            obtain ⟨H, l, hXi⟩ : ∃ H l, X i = (H, l) := ⟨_, _, rfl⟩
            rw [hXi] at XA S ⊢
            simp only at XA S ⊢
            have HXI := Lib.hid hXi
            clear hXi
            have hll : (l.length : Int) ≤ 40 := by have := XA.len.2; simp only at this; omega
            have HXL := Lib.hid XA
            clear XA
            by_cases hib : i < svs.length
            · have hib1 : (i : Int) < svs.length := by omega
              have hiB : i < B.length := by have := HIN.out.ins.1; omega
              obtain ⟨r, hr⟩ : ∃ r, B[i]? = some r := ⟨B[i], by simp [hiB]⟩
              obtain ⟨sv, hsv⟩ : ∃ sv, svs[i]? = some sv := ⟨svs[i], by simp [hib]⟩
              have HRW := Lib.hid (HIN.out.ins.2 i sv r hsv hr)
              have hr6 : r.length ≤ 6 := HZ.out.2.2.2.1 r (List.mem_of_getElem? hr)
              have HI := Lib.hid (And.intro hi (And.intro hiB (And.intro hr6 hr)))
              have XS := HXS.out i r hr
              rw [HXI.out] at XS
              have HSTEP := Lib.hid XS
              clear XS
              obtain ⟨ra, rc, esv, k1, k2, k3⟩ := HRW.out _ S.below
              obtain ⟨g0, o0, hba, cR⟩ := (HIN.out.rows _ S.below).slotF hsv
              rw [esv] at HRW cR
              subst hba
              have S8 := S.madeRow V.cells 3 31
              obtain ⟨bb, hbb⟩ : ∃ gx_, (wr.heap.size) = gx_ := ⟨_, rfl⟩
              rw [hbb] at S8
              have S9 : Hid (Sep w (valsR (.slice (some ⟨bb, 0, none⟩) 0 0) ((r.take 0).map (pickL l)) :: valsR (.slice ob l.length od) l :: heapR h H :: boxR q (.cells #[.int .i64 4, .int .i64 ((k : Int) + 19), .string ⟨#[]⟩] 31) :: zeroB (b + 1) :: planB b a (some ⟨g0, o0, none⟩) svs.length bc ia I.length ic :: Rs) (wr.alloc (.cells #[] 31))) := Lib.hid S8
              have HSV := Lib.hid (And.intro hsv (And.intro esv hr))
              have hr6' : (r.length : Int) ≤ 6 := by omega
              clear S S8 hsv esv hr k1 k2 k3 hi hiB hib hr6 cR
              have HCR : Hid (∀ W', Sep w (valsR (.slice ob l.length od) l :: heapR h H :: boxR q (.cells #[.int .i64 4, .int .i64 ((k : Int) + 19), .string ⟨#[]⟩] 31) :: zeroB (b + 1) :: planB b a (some ⟨g0, o0, none⟩) svs.length bc ia I.length ic :: Rs) W' → W'.cell? ⟨b, 1, none⟩ = some (.slice (some ⟨g0, o0, none⟩) svs.length bc) ∧ W'.cell? ⟨g0, o0 + i, none⟩ = some (.slice ra r.length rc)) := Lib.hid fun W' T => by
                refine ⟨cellAt (T.box (b := b) 4 rfl) 1 (v := .slice (some ⟨g0, o0, none⟩) svs.length bc) rfl, ?_⟩
                obtain ⟨g1, o1, h1, h2⟩ := (HIN.out.rows _ T.below).slotF HSV.out.1
                rw [HSV.out.2.1] at h2
                simp only [Option.some.injEq, Addr.mk.injEq, and_true] at h1
                obtain ⟨rfl, rfl⟩ := h1
                exact h2
              go_wp2
              try simp only [hbb]
              clear hbb cB
              go_loopw [14, 15] (fun bv jv wr => ∃ (j : Nat) (ya : Option Addr) (yc : Nat), j ≤ r.length ∧ jv = .int .i64 j ∧ bv = .slice ya j yc ∧ Sep w (valsR (.slice ya j yc) ((r.take j).map (pickL l)) :: valsR (.slice ob l.length od) l :: heapR h H :: boxR q (.cells #[.int .i64 4, .int .i64 ((k : Int) + 19), .string ⟨#[]⟩] 31) :: zeroB (b + 1) :: planB b a (some ⟨g0, o0, none⟩) svs.length bc ia I.length ic :: Rs) wr) (fun _ jv _ => r.length - (intOf jv).toNat)
              case atStart => exact ⟨0, _, _, by omega, rfl, rfl, S9.out⟩
              case round =>
                clear S9
                obtain ⟨j, ya, yc, hj, rfl, rfl, S⟩ := hrel
                obtain ⟨c1, c2⟩ := HCR.out _ S.tail
                have hj6 : (j : Int) ≤ 6 := by omega
                have hi0 : (0 : Int) ≤ i := by omega
                have hj0 : (0 : Int) ≤ j := by omega
                by_cases hjr : j < r.length
                · have hjr1 : (j : Int) < r.length := by omega
                  obtain ⟨x, hx⟩ : ∃ x, r[j]? = some x := ⟨r[j], by simp [hjr]⟩
                  obtain ⟨_, _, e0, p1, p2, p3⟩ := HRW.out _ S.below
                  cases e0
                  obtain ⟨g1, o1, rfl, hcell⟩ : ∃ g o, ra = some ⟨g, o, none⟩ ∧ ∀ i n, r[i]? = some n → wr.cell? ⟨g, o + i, none⟩ = some (.int .i64 n) := by
                    rcases p3 with hh | hh
                    · subst hh; simp at hjr
                    · exact hh
                  have cx := hcell j x hx
                  have C := Lib.hid (Pick_ok _ _ l x (S.row 1 rfl).sees')
                  have hlen : ((r.take j).map (pickL l)).length = j := by rw [List.length_map, List.length_take]; omega
                  have htk : (r.take (j + 1)).map (pickL l) = (r.take j).map (pickL l) ++ [pickL l x] := by rw [List.take_add_one, hx, List.map_append]; rfl
                  obtain ⟨p, hp⟩ : ∃ gx_, (pickL l x) = gx_ := ⟨_, rfl⟩
                  rw [hp] at C htk
                  obtain ⟨tj, htj⟩ : ∃ gx_, ((r.take j).map (pickL l)) = gx_ := ⟨_, rfl⟩
                  rw [htj] at S hlen htk
                  clear htj
                  have HP := Lib.hid (And.intro hjr (And.intro hlen htk))
                  replace S := Lib.hid S
                  clear hx hcell p1 p2 p3 hp hjr hlen htk
                  simp only [V.val] at C
                  go_wp2_with fail
                  refine C.out.mono ?_
                  rintro e w5 ⟨rfl, B5⟩
                  have S11 := (S.out.later B5).alloc (.cells #[.int .i64 p.kind, .int .i64 p.n, .string p.s] 31)
                  have hone := Lib.hid (sees_one (f := V.cells) (m := 3) (y := p) (heapAllocNew w5 (.cells #[.int .i64 p.kind, .int .i64 p.n, .string p.s] 31)) rfl)
                  replace S11 := Lib.hid S11
                  clear C B5 cx c1 c2 S
                  go_wp2_with (at_builtin; refine wpList_append_rows rfl _ _ 48 31 rfl Tryd.underlying48 _ 32 info_val rfl (by decide) (by decide) V.cells_len (by intro p u hu; simp [V.cells] at hu; rcases hu with rfl | rfl | rfl <;> rfl) S11.out 1 rfl rfl _ [p] rfl hone.out (by rw [HP.out.2.1]; simp; omega) ?_)
                  intro va vc w6 S12
                  have S13 : Hid (Sep w (valsR (.slice va (j + 1) vc) ((r.take (j + 1)).map (pickL l)) :: valsR (.slice ob l.length od) l :: heapR h H :: boxR q (.cells #[.int .i64 4, .int .i64 ((k : Int) + 19), .string ⟨#[]⟩] 31) :: zeroB (b + 1) :: planB b a (some ⟨g0, o0, none⟩) svs.length bc ia I.length ic :: Rs) w6) := Lib.hid (by
                    have h1 := S12.tail
                    rw [HP.out.2.1] at h1
                    rw [HP.out.2.2]
                    exact h1)
                  rw [HP.out.2.1]
                  clear S11 S12 hone
                  go_wp2
                  refine ⟨⟨j + 1, _, _, by have := HP.out.1; omega, by go_num, by simp, S13.out⟩, by have := HP.out.1; simp [intOf]; omega⟩
                · have e : j = r.length := by omega
                  rw [e] at S ⊢
                  rw [List.take_length] at S
                  obtain ⟨bs, hbs⟩ : ∃ bs, bs = r.map (pickL l) := ⟨_, rfl⟩
                  have hbl : r.length = bs.length := by rw [hbs]; simp
                  have hjr2 : (r.length : Int) ≤ r.length := by omega
                  rw [← hbs] at S
                  rw [hbl] at S c2 hr6' ⊢
                  have XA := HXL.out
                  have hlast := XA.last
                  simp only at hlast
                  have hn1 : okI (H.last + 1) := okI_of ⟨by omega, by omega⟩
                  have C1 := S.make 2 rfl XA.fit.G (by omega) dictO (.slice none 0 0) (seesV_nilF _) (by simp [dictO]) rfl (by simp [dictO]) (by simp [dictO])
                  replace C1 : Hid (Calls Tryd.prog 24 #[.pointer (some ⟨h, 0, none⟩), .int .i64 3, .string ⟨#[]⟩, .int .i64 0, .slice none 0 0] wr fun e W' => e = .returned (.agg #[.int .i64 4, .int .i64 (H.last + 1), .string ⟨#[]⟩]) ∧ Sep w (valsR (.slice ya bs.length yc) bs :: valsR (.slice ob l.length od) l :: heapR h (H.add dictO) :: boxR q (.cells #[.int .i64 4, .int .i64 ((k : Int) + 19), .string ⟨#[]⟩] 31) :: zeroB (b + 1) :: planB b a (some ⟨g0, o0, none⟩) svs.length bc ia I.length ic :: Rs) W') := Lib.hid (C1.mono fun e W' hh => ⟨hh.1, hh.2⟩)
                  have HBS := Lib.hid (And.intro hbs hbl)
                  have HN1 := Lib.hid (And.intro hn1 hlast)
                  clear S XA hlast hbs hj hjr hbl hjr2 e
                  go_wp2_with fail
                  refine C1.out.mono ?_
                  rintro e w5 ⟨rfl, S⟩
                  clear C1 c1 c2
                  have C := class_ok S 2 rfl (HXL.out.dict).fit madeS madeS_le ya yc bs (fun W' T => (T.row 0 rfl).sees') (V.ref (H.last + 1) HN1.out.1) (by
                    have h1 : bs.length ≤ 6 := by omega
                    have h2 : i ≤ 20 := by omega
                    have h4 : bs.length * (1140 + 200 * i + 2 + 2) ≤ 6 * 6000 := Nat.mul_le_mul h1 (by omega)
                    omega)
                  replace C : Hid (Calls Tryd.prog 25 #[.pointer (some ⟨h, 0, none⟩), .string ⟨#[109, 97, 100, 101]⟩, .slice ya bs.length yc, .agg #[.int .i64 4, .int .i64 (H.last + 1), .string ⟨#[]⟩]] w5 _) := Lib.hid C
                  clear S
                  go_wp2_with fail
                  refine C.out.mono ?_
                  rintro e w6 hdone
                  clear C
                  have hst := HSTEP.out
                  unfold rowStep at hst
                  simp only at hst
                  rw [refN_ok HN1.out.1, ← HBS.out.1] at hst
                  unfold ClassDone at hdone
                  obtain ⟨R, hR⟩ : ∃ gx_, ((H.add dictO).mkClass madeS madeS_le bs (V.ref (H.last + 1) HN1.out.1)) = gx_ := ⟨_, rfl⟩
                  rw [hR] at hst hdone
                  have HST := Lib.hid hst
                  clear hR HSTEP hst
                  cases R with
                  | none =>
                    obtain ⟨rfl, S⟩ := hdone
                    have S12 := (S.alloc (.cells #[.int .i64 0, .int .i64 0, .string ⟨#[]⟩] 31)).alloc (.cells #[.string typeError, .int .i64 0, .int .i64 0, .string ⟨#[]⟩, .bool false] 35)
                    have e1 : X (i + 1) = (H.add dictO, l) := HST.out
                    have S13 : Hid (Sep w (valsR (.slice ob (X (i + 1)).2.length od) (X (i + 1)).2 :: heapR h (X (i + 1)).1 :: boxR q (.cells #[.int .i64 4, .int .i64 ((k : Int) + 19), .string ⟨#[]⟩] 31) :: zeroB (b + 1) :: planB b a (some ⟨g0, o0, none⟩) svs.length bc ia I.length ic :: Rs) _) := Lib.hid (by rw [e1]; exact S12.tail.tail.tail)
                    have HE := Lib.hid e1
                    clear S S12 e1
                    go_wp2
                    refine ⟨?_, ?measure⟩
                    iterate 52 apply Exists.intro
                    refine ⟨?rel, rfl⟩
                    case rel => exact ⟨i + 1, _, _, by have := HI.out.2.1; omega, by go_num, by rw [HE.out], S13.out⟩
                    case measure => have := HI.out.2.1; simp [intOf]; omega
                  | some H' =>
                    obtain ⟨rfl, S⟩ := hdone
                    have hlast : (H.add dictO).last + 1 = H.last + 2 := by show H.last + 1 + 1 = _; omega
                    rw [hlast]
                    have hn2 : okI (H.last + 2) := okI_of (by have := HN1.out.2; omega)
                    replace S : Sep w (valsR (.slice ya bs.length yc) bs :: valsR (.slice ob l.length od) l :: heapR h H' :: boxR q (.cells #[.int .i64 4, .int .i64 ((k : Int) + 19), .string ⟨#[]⟩] 31) :: zeroB (b + 1) :: planB b a (some ⟨g0, o0, none⟩) svs.length bc ia I.length ic :: Rs) w6 := S
                    have S12 := ((S.alloc (.cells #[.int .i64 4, .int .i64 (H.last + 2), .string ⟨#[]⟩] 31)).alloc (.cells #[.string ⟨#[]⟩, .int .i64 0, .int .i64 0, .string ⟨#[]⟩, .bool false] 35)).alloc (.cells #[.int .i64 4, .int .i64 (H.last + 2), .string ⟨#[]⟩] 31)
                    have hone := Lib.hid (sees_one (f := V.cells) (m := 3) (y := V.ref (H.last + 2) hn2) (heapAllocNew ((w6.alloc (.cells #[.int .i64 4, .int .i64 (H.last + 2), .string ⟨#[]⟩] 31)).alloc (.cells #[.string ⟨#[]⟩, .int .i64 0, .int .i64 0, .string ⟨#[]⟩, .bool false] 35)) (.cells #[.int .i64 4, .int .i64 (H.last + 2), .string ⟨#[]⟩] 31)) rfl)
                    simp only [World.size_alloc] at hone
                    have e1 : X (i + 1) = (H', l ++ [V.ref (H.last + 2) hn2]) := by rw [HST.out, refN_ok hn2]
                    have HE := Lib.hid e1
                    replace S12 := Lib.hid S12
                    clear S e1 hlast
                    go_wp2_with (at_builtin; refine wpList_append_rows rfl _ _ 48 31 rfl Tryd.underlying48 _ 32 info_val rfl (by decide) (by decide) V.cells_len (by intro p u hu; simp [V.cells] at hu; rcases hu with rfl | rfl | rfl <;> rfl) S12.out 4 rfl rfl _ [V.ref (H.last + 2) hn2] rfl hone.out (by simp; omega) ?_)
                    intro va vc w7 S13
                    have S14 : Hid (Sep w (valsR (.slice va (X (i + 1)).2.length vc) (X (i + 1)).2 :: heapR h (X (i + 1)).1 :: boxR q (.cells #[.int .i64 4, .int .i64 ((k : Int) + 19), .string ⟨#[]⟩] 31) :: zeroB (b + 1) :: planB b a (some ⟨g0, o0, none⟩) svs.length bc ia I.length ic :: Rs) w7) := Lib.hid (by rw [HE.out]; simp only [List.length_append, List.length_singleton]; exact S13.tail.tail.tail.tail)
                    clear S12 S13 hone
                    go_wp2
                    refine ⟨?_, ?measure⟩
                    iterate 52 apply Exists.intro
                    refine ⟨?rel, rfl⟩
                    case rel => exact ⟨i + 1, _, _, by have := HI.out.2.1; omega, by go_num, by rw [HE.out]; simp, S14.out⟩
                    case measure => have := HI.out.2.1; simp [intOf]; omega
            · have e : i = B.length := by have := HIN.out.ins.1; omega
              subst e
              have hXE : (H, l) = rowsM (bootS k) B := by rw [← HXE.out, HXI.out]
              obtain ⟨Y, hY⟩ : ∃ Y : Nat → HeapM × List V, Y = fun i => instsM l (H, l) (I.take i) := ⟨_, rfl⟩
              have hY0 : Y 0 = (H, l) := by rw [hY]; rfl
              have HYA : Hid (∀ i, i ≤ I.length → LaidB (Y i) l (k : Int) (5140 + 3 * i) i) := Lib.hid (by
                have := insts_in k HZ.out.2.1 B HZ.out.2.2.1 I HZ.out.2.2.2.2
                rw [← hXE] at this
                rw [hY]; exact this)
              have HYS : Hid (∀ (i : Nat) (x : Int), I[i]? = some x → Y (i + 1) = instStep l (Y i) x) := Lib.hid (by
                rw [hY]; intro i x hi
                obtain ⟨h1, h2⟩ := List.getElem?_eq_some_iff.1 hi
                subst h2
                exact foldl_take _ _ _ h1)
              have HYE : Hid (Y I.length = laidM k B I) := Lib.hid (by
                rw [hY]; unfold laidM; rw [← hXE]; simp)
              have S8 : Hid (Sep w (valsR (.slice ob (Y 0).2.length od) (Y 0).2 :: heapR h (Y 0).1 :: boxR q (.cells #[.int .i64 4, .int .i64 ((k : Int) + 19), .string ⟨#[]⟩] 31) :: zeroB (b + 1) :: planB b a ba svs.length bc ia I.length ic :: Rs) wr) := Lib.hid (by rw [hY0]; exact S)
              have HY0 := Lib.hid hY0
              have hib2 : (svs.length : Int) ≤ (B.length : Int) := by have := HIN.out.ins.1; omega
              have hib3 : ¬ (B.length < svs.length) := by omega
              clear S hXE hY hY0 hi hi20 hib HXA HXS HXE HXI
              go_wp2
              clear hib2 hib3
              go_loopw [8, 19] (fun lv iv wr => ∃ (i : Nat) (oa : Option Addr) (oc : Nat), i ≤ I.length ∧ iv = .int .i64 i ∧ lv = .slice oa (Y i).2.length oc ∧ Sep w (valsR (.slice oa (Y i).2.length oc) (Y i).2 :: heapR h (Y i).1 :: boxR q (.cells #[.int .i64 4, .int .i64 ((k : Int) + 19), .string ⟨#[]⟩] 31) :: zeroB (b + 1) :: planB b a ba svs.length bc ia I.length ic :: Rs) wr) (fun _ iv _ => I.length - (intOf iv).toNat)
              case atStart => exact ⟨0, ob, od, by omega, rfl, by rw [HY0.out], S8.out⟩
              case round =>
                clear S8 HY0 cB
                obtain ⟨i, oe, oc, hi, rfl, rfl, S⟩ := hrel
                have hi20 : (i : Int) ≤ 20 := by have := HZ.out.2.2.2.2; omega
                have YA := HYA.out i hi
                obtain ⟨H2, l2, hYi⟩ : ∃ H l, Y i = (H, l) := ⟨_, _, rfl⟩
                rw [hYi] at YA S ⊢
                simp only at YA S ⊢
                have HYI := Lib.hid hYi
                clear hYi
                have hl2 : (l.length : Int) ≤ l2.length ∧ (l2.length : Int) ≤ 60 := by have h1 := YA.len.2; simp only at h1; omega
                have hl17 : 17 ≤ l.length := YA.len.1
                have HYL := Lib.hid YA
                clear YA
                have c2 := cellAt (S.box (b := b) 4 rfl) 2 (v := .slice ia I.length ic) rfl
                by_cases hii : i < I.length
                · have hii1 : (i : Int) < I.length := by omega
                  obtain ⟨x, hx⟩ : ∃ x, I[i]? = some x := ⟨I[i], by simp [hii]⟩
                  obtain ⟨_, _, e0, p1, p2, p3⟩ := HIN.out.nums _ S.below
                  cases e0
                  obtain ⟨g1, o1, rfl, hcell⟩ : ∃ g o, ia = some ⟨g, o, none⟩ ∧ ∀ i n, I[i]? = some n → wr.cell? ⟨g, o + i, none⟩ = some (.int .i64 n) := by
                    rcases p3 with hh | hh
                    · subst hh; simp at hii
                    · exact hh
                  clear hcell p1 p2 p3
                  obtain ⟨_, _, e0, p1, p2, p3⟩ := (S.row 0 rfl).sees'
                  cases e0
                  have hoc : (l2.length : Int) ≤ oc := by omega
                  have hoc2 : (oc : Int) ≤ 9223372036854775807 := by unfold maxLen at p2; omega
                  have hml : (l.length : Int) ≤ oc := by omega
                  have hm0 : (0 : Int) ≤ l.length := by omega
                  have hsl0 : sliced oe 0 l.length oc 3 = .slice oe l.length oc := sliced_zero oe l.length oc (by omega) (by omega)
                  have htk : l2.take l.length = l := by
                    obtain ⟨t, ht⟩ := HYL.out.pre
                    simp only at ht
                    rw [ht]; simp
                  have hxm := HYL.out.mem _ (pickL_mem (List.ne_nil_of_length_pos (by omega)) x)
                  simp only at hxm
                  have hs := HYS.out i x hx
                  rw [HYI.out] at hs
                  unfold instStep at hs
                  have hlast := HYL.out.last
                  simp only at hlast
                  obtain ⟨nx, hnx⟩ : ∃ nx, H2.last + 1 = nx := ⟨_, rfl⟩
                  have hn1 : okI nx := okI_of ⟨by omega, by omega⟩
                  have HF := Lib.hid HYL.out.fit
                  obtain ⟨p, hp⟩ : ∃ gx_, (pickL l x) = gx_ := ⟨_, rfl⟩
                  rw [hp] at hs hxm
                  unfold instAt at hs
                  simp only at hs
                  rw [hnx, refN_ok hn1] at hs
                  have HNX := Lib.hid hnx
                  clear hnx
                  have HPK := Lib.hid hp
                  have HS := Lib.hid (And.intro hs (And.intro hxm hn1))
                  have HTK := Lib.hid htk
                  have hi0 : (0 : Int) ≤ i := by omega
                  have HX := Lib.hid (And.intro hx hii)
                  clear hx p1 p2 p3 hs hxm hp hii htk
                  obtain ⟨baseA, hbaseA⟩ : ∃ base, base = valsR (.slice oe l2.length oc) l2 :: heapR h H2 :: boxR q (.cells #[.int .i64 4, .int .i64 ((k : Int) + 19), .string ⟨#[]⟩] 31) :: boxR ((b + 1)) (.cells #[.int .i64 0, .int .i64 0, .string ⟨#[]⟩] 31) :: boxR b (.cells #[.int .i64 a, .slice ba svs.length bc, .slice (some ⟨g1, o1, none⟩) I.length ic] 46) :: Rs := ⟨_, rfl⟩
                  have HbaseA := Lib.hid hbaseA
                  have KbaseA : Hid (∀ W (Q : List Res), Sep w (Q ++ baseA) W → W.cell? ⟨b, 0, none⟩ = some (.int .i64 a) ∧ W.cell? ⟨b, 1, none⟩ = some (.slice ba svs.length bc) ∧ W.cell? ⟨b, 2, none⟩ = some (.slice (some ⟨g1, o1, none⟩) I.length ic) ∧ W.cell? ⟨g1, o1 + i, none⟩ = some (.int .i64 x)) := Lib.hid fun W Q T => by
                    rw [hbaseA] at T
                    have i0 := T.box (b := b) (o := .cells #[.int .i64 a, .slice ba svs.length bc, .slice (some ⟨g1, o1, none⟩) I.length ic] 46) (Q.length + 4) (by rw [List.getElem?_append_right (by omega), Nat.add_sub_cancel_left]; rfl)
                    exact ⟨cellAt i0 0 rfl, cellAt i0 1 rfl, cellAt i0 2 rfl, (by obtain ⟨_, _, e0, _, _, p3⟩ := HIN.out.nums _ T.below; cases e0; rcases p3 with hh | ⟨g2, o2, h1, h2⟩; (exfalso; have := HX.out.2; rw [hh] at this; simp at this); (cases h1; exact h2 i x HX.out.1))⟩
                  obtain ⟨baseB, hbaseB⟩ : ∃ base, base = valsR (.slice oe l2.length oc) l2 :: heapR h (H2.add (instO (H2.name p) (HeapM.name_le _ _) p)) :: boxR q (.cells #[.int .i64 4, .int .i64 ((k : Int) + 19), .string ⟨#[]⟩] 31) :: boxR ((b + 1)) (.cells #[.int .i64 0, .int .i64 0, .string ⟨#[]⟩] 31) :: boxR b (.cells #[.int .i64 a, .slice ba svs.length bc, .slice (some ⟨g1, o1, none⟩) I.length ic] 46) :: Rs := ⟨_, rfl⟩
                  have HbaseB := Lib.hid hbaseB
                  have KbaseB : Hid (∀ W (Q : List Res), Sep w (Q ++ baseB) W → W.cell? ⟨b, 0, none⟩ = some (.int .i64 a) ∧ W.cell? ⟨b, 1, none⟩ = some (.slice ba svs.length bc) ∧ W.cell? ⟨b, 2, none⟩ = some (.slice (some ⟨g1, o1, none⟩) I.length ic) ∧ W.cell? ⟨g1, o1 + i, none⟩ = some (.int .i64 x)) := Lib.hid fun W Q T => by
                    rw [hbaseB] at T
                    have i0 := T.box (b := b) (o := .cells #[.int .i64 a, .slice ba svs.length bc, .slice (some ⟨g1, o1, none⟩) I.length ic] 46) (Q.length + 4) (by rw [List.getElem?_append_right (by omega), Nat.add_sub_cancel_left]; rfl)
                    exact ⟨cellAt i0 0 rfl, cellAt i0 1 rfl, cellAt i0 2 rfl, (by obtain ⟨_, _, e0, _, _, p3⟩ := HIN.out.nums _ T.below; cases e0; rcases p3 with hh | ⟨g2, o2, h1, h2⟩; (exfalso; have := HX.out.2; rw [hh] at this; simp at this); (cases h1; exact h2 i x HX.out.1))⟩
                  have KP : Hid (∀ W (Q : List Res), Sep w (Q ++ baseA) W → Calls Tryd.prog 23 #[.slice oe l.length oc, .int .i64 x] W fun e W' => e = .returned (.agg #[.int .i64 p.kind, .int .i64 p.n, .string p.s]) ∧ Sep w (Q ++ baseA) W') := Lib.hid fun W Q T => by
                    rw [HbaseA.out] at T
                    have s1 := seesV_take (m := l.length) (T.row (Q.length + 0) (by rw [List.getElem?_append_right (by omega), Nat.add_sub_cancel_left]; rfl)).sees' (by omega)
                    rw [HTK.out] at s1
                    have hh := Pick_ok W _ l x s1
                    rw [HPK.out] at hh
                    rw [HbaseA.out]
                    exact hh.mono fun e W' ⟨e1, e2⟩ => ⟨e1, T.later e2⟩
                  have KI : Hid (∀ W (Q : List Res), Sep w (Q ++ baseA) W → Calls Tryd.prog 27 #[.pointer (some ⟨h, 0, none⟩), .agg #[.int .i64 p.kind, .int .i64 p.n, .string p.s]] W fun e W' => e = .returned (.tuple #[.agg #[.int .i64 4, .int .i64 nx, .string ⟨#[]⟩], .bool true]) ∧ Sep w (Q ++ baseB) W') := Lib.hid fun W Q T => by
                    rw [HbaseA.out] at T
                    rw [HbaseB.out]
                    have hh := instance_ok T (Q.length + 1) (by rw [List.getElem?_append_right (by omega), Nat.add_sub_cancel_left]; rfl) HF.out (by omega) p (HeapM.name_le _ _) HS.out.2.1.1
                    rw [List.set_append_right _ _ (by omega), Nat.add_sub_cancel_left, HNX.out] at hh
                    exact hh
                  clear hlast
                  replace S : Sep w (baseA) wr := by rw [hbaseA]; exact S
                  replace S := Lib.hid S
                  clear hbaseA hbaseB
                  go_upto_region 31 with fail
                  clear c2
                  go_cut [20, 21] from 107 to 127 (fun s20 s21 wx => ∃ qx, s20 = .pointer (some ⟨qx, 0, none⟩) ∧ s21 = .bool true ∧ Sep w (boxR qx (.cells #[.int .i64 4, .int .i64 nx, .string ⟨#[]⟩] 31) :: baseB) wx)
                  case first =>
                    have T0 : Sep w ([] ++ baseA) _ := S.out.drew
                    clear S
                    as_aux_lemma =>
                      refine wp_region_held_drew (S := fun W => W.cell? ⟨b, 0, none⟩ = some (.int .i64 a) ∧ W.cell? ⟨b, 1, none⟩ = some (.slice ba svs.length bc) ∧ W.cell? ⟨b, 2, none⟩ = some (.slice (some ⟨g1, o1, none⟩) I.length ic) ∧ W.cell? ⟨g1, o1 + i, none⟩ = some (.int .i64 x)) (by kernel_rfl) (KbaseA.out _ [] T0) (fun hH => ?_)
                      refine takeT 0 hH (hy := .inl ⟨by rfl, by (intro w hSw; try obtain ⟨u0, u1, u2, v0⟩ := hSw); (go_simp; try rfl)⟩) (h := ?_)
                      simp only [Act.put, List.setIfInBounds_toArray, List.set_cons_zero, List.set_cons_succ]
                      refine takeT 1 hH (hy := .inl ⟨by rfl, by (intro w hSw; try obtain ⟨u0, u1, u2, v0⟩ := hSw); (go_simp; try rfl)⟩) (h := ?_)
                      simp only [Act.put, List.setIfInBounds_toArray, List.set_cons_zero, List.set_cons_succ]
                      refine takeT 2 hH (hy := .inl ⟨by rfl, by (intro w hSw; try obtain ⟨u0, u1, u2, v0⟩ := hSw); (go_simp; try rfl)⟩) (h := ?_)
                      simp only [Act.put, List.setIfInBounds_toArray, List.set_cons_zero, List.set_cons_succ]
                      refine takeT 3 hH (hy := .inl ⟨by rfl, by (intro w hSw; try obtain ⟨u0, u1, u2, v0⟩ := hSw); (go_simp; try rfl)⟩) (h := ?_)
                      simp only [Act.put, List.setIfInBounds_toArray, List.set_cons_zero, List.set_cons_succ]
                      refine takeT 4 hH (hy := .inl ⟨by rfl, by (intro w hSw; try obtain ⟨u0, u1, u2, v0⟩ := hSw); (go_simp; try rfl)⟩) (h := ?_)
                      simp only [Act.put, List.setIfInBounds_toArray, List.set_cons_zero, List.set_cons_succ]
                      refine takeT 5 hH (hy := .inl ⟨by rfl, by (intro w hSw; try obtain ⟨u0, u1, u2, v0⟩ := hSw); (go_simp; try rfl)⟩) (h := ?_)
                      simp only [Act.put, List.setIfInBounds_toArray, List.set_cons_zero, List.set_cons_succ]
                      refine takeT 6 hH (hy := .inl ⟨by rfl, by (intro w hSw; try obtain ⟨u0, u1, u2, v0⟩ := hSw); (go_simp; try rfl)⟩) (h := ?_)
                      simp only [Act.put, List.setIfInBounds_toArray, List.set_cons_zero, List.set_cons_succ]
                      refine takeT 7 hH (hy := .inl ⟨by rfl, by (intro w hSw; try obtain ⟨u0, u1, u2, v0⟩ := hSw); (go_simp; try rfl)⟩) (h := ?_)
                      simp only [Act.put, List.setIfInBounds_toArray, List.set_cons_zero, List.set_cons_succ]
                      refine takeT 8 hH (hy := .inl ⟨by rfl, by (intro w hSw; try obtain ⟨u0, u1, u2, v0⟩ := hSw); (go_simp; try rfl)⟩) (h := ?_)
                      simp only [Act.put, List.setIfInBounds_toArray, List.set_cons_zero, List.set_cons_succ]
                      refine readyT [9, 14] ?_
                      refine consT (fun K hK => ?_) (consT (fun K hK => ?_) AllReadyH.nil)
                      · go_simp
                        go_wp2_with (go_at_call 23; refine (KP.out _ [] T0).mono ?_; rintro e w1 ⟨rfl, T1⟩)
                        clear hH
                        refine hK.out _ _ (KbaseA.out _ [] T1) (fun hH => ?_)
                        clear hK K
                        refine readyT [10, 14] ?_
                        refine consT (fun K hK => ?_) (consT (fun K hK => ?_) AllReadyH.nil)
                        · go_simp
                          go_wp2_with (go_at_call 27; refine (KI.out _ [] T1).mono ?_; rintro e w2 ⟨rfl, T2⟩)
                          clear hH
                          refine hK.out _ _ (KbaseB.out _ [] T2) (fun hH => ?_)
                          clear hK K
                          refine takeT 11 hH (hy := .inl ⟨by rfl, by (intro w hSw; try obtain ⟨u0, u1, u2, v0⟩ := hSw); (go_simp; try rfl)⟩) (h := ?_)
                          simp only [Act.put, List.setIfInBounds_toArray, List.set_cons_zero, List.set_cons_succ]
                          refine takeT 12 hH (hy := .inl ⟨by rfl, by (intro w hSw; try obtain ⟨u0, u1, u2, v0⟩ := hSw); (go_simp; try rfl)⟩) (h := ?_)
                          simp only [Act.put, List.setIfInBounds_toArray, List.set_cons_zero, List.set_cons_succ]
                          refine takeT 13 hH (hy := .inl ⟨by rfl, by (intro w hSw; try obtain ⟨u0, u1, u2, v0⟩ := hSw); (go_simp; try rfl)⟩) (h := ?_)
                          simp only [Act.put, List.setIfInBounds_toArray, List.set_cons_zero, List.set_cons_succ]
                          refine readyT [14] ?_
                          refine consT (fun K hK => ?_) AllReadyH.nil
                          go_simp
                          have T3 : Sep w ([boxR _ (.cells #[.int .i64 0, .int .i64 0, .string ⟨#[]⟩] 31)] ++ baseB) _ := Sep.alloc T2 (.cells #[.int .i64 0, .int .i64 0, .string ⟨#[]⟩] 31)
                          try simp only [size_drew, World.size_alloc] at T3
                          clear hH
                          refine hK.out _ _ (KbaseB.out _ [_] T3) (fun hH => ?_)
                          clear hK K
                          refine readyT [15] ?_
                          refine consT (fun K hK => ?_) AllReadyH.nil
                          have hz := T3.box 0 rfl
                          have z0 := cellAt hz 0 (v := .int .i64 0) rfl
                          have z1 := cellAt hz 1 (v := .int .i64 0) rfl
                          have z2 := cellAt hz 2 (v := .string ⟨#[]⟩) rfl
                          have z3 := frozenAt hz 0
                          have z4 := frozenAt hz 1
                          have z5 := frozenAt hz 2
                          try simp only [World.cell?_drew, World.frozen?_drew] at z0 z1 z2 z3 z4 z5
                          go_simp
                          clear hz z0 z1 z2 z3 z4 z5
                          clear hH
                          first | (have T4 : Sep w ([boxR _ (.cells #[.int .i64 4, .int .i64 nx, .string ⟨#[]⟩] 31)] ++ baseB) _ := (Sep.alloc T2 (.cells #[.int .i64 4, .int .i64 nx, .string ⟨#[]⟩] 31)); (try simp only [size_drew, World.size_alloc] at T4); refine hK.out _ _ (KbaseB.out _ [_] T4) (fun hH => ?_)) | (have T4 : Sep w ([boxR _ (.cells #[.int .i64 4, .int .i64 nx, .string ⟨#[]⟩] 31)] ++ baseB) _ := (Sep.setBox (cs := #[.int .i64 4, .int .i64 nx, .string ⟨#[]⟩]) (t := 31) (Sep.setBox (cs := #[.int .i64 4, .int .i64 0, .string ⟨#[]⟩]) (t := 31) (Sep.setBox (cs := #[.int .i64 0, .int .i64 0, .string ⟨#[]⟩]) (t := 31) T3 0 rfl 0 (.int .i64 4)) 0 rfl 1 (.int .i64 nx)) 0 rfl 2 (.string ⟨#[]⟩)); (try simp only [size_drew, World.size_alloc] at T4); refine hK.out _ _ (KbaseB.out _ [_] T4) (fun hH => ?_))
                          clear hK K
                          refine takeT 16 hH (hy := .inl ⟨by rfl, by (intro w hSw; try obtain ⟨u0, u1, u2, v0⟩ := hSw); (go_simp; try rfl)⟩) (h := ?_)
                          simp only [Act.put, List.setIfInBounds_toArray, List.set_cons_zero, List.set_cons_succ]
                          refine wpAnyH_done (by kernel_rfl) ?_ _
                          as_aux_lemma =>
                            go_wp2_with fail
                            go_meet
                            exact ⟨_, rfl, rfl, T4⟩
                        · go_simp
                          have T5 : Sep w ([boxR _ (.cells #[.int .i64 0, .int .i64 0, .string ⟨#[]⟩] 31)] ++ baseA) _ := Sep.alloc T1 (.cells #[.int .i64 0, .int .i64 0, .string ⟨#[]⟩] 31)
                          try simp only [size_drew, World.size_alloc] at T5
                          clear hH
                          refine hK.out _ _ (KbaseA.out _ [_] T5) (fun hH => ?_)
                          clear hK K
                          refine readyT [10] ?_
                          refine consT (fun K hK => ?_) AllReadyH.nil
                          go_simp
                          go_wp2_with (go_at_call 27; refine (KI.out _ [_] T5).mono ?_; rintro e w6 ⟨rfl, T6⟩)
                          clear hH
                          refine hK.out _ _ (KbaseB.out _ [_] T6) (fun hH => ?_)
                          clear hK K
                          refine takeT 11 hH (hy := .inl ⟨by rfl, by (intro w hSw; try obtain ⟨u0, u1, u2, v0⟩ := hSw); (go_simp; try rfl)⟩) (h := ?_)
                          simp only [Act.put, List.setIfInBounds_toArray, List.set_cons_zero, List.set_cons_succ]
                          refine takeT 12 hH (hy := .inl ⟨by rfl, by (intro w hSw; try obtain ⟨u0, u1, u2, v0⟩ := hSw); (go_simp; try rfl)⟩) (h := ?_)
                          simp only [Act.put, List.setIfInBounds_toArray, List.set_cons_zero, List.set_cons_succ]
                          refine takeT 13 hH (hy := .inl ⟨by rfl, by (intro w hSw; try obtain ⟨u0, u1, u2, v0⟩ := hSw); (go_simp; try rfl)⟩) (h := ?_)
                          simp only [Act.put, List.setIfInBounds_toArray, List.set_cons_zero, List.set_cons_succ]
                          refine readyT [15] ?_
                          refine consT (fun K hK => ?_) AllReadyH.nil
                          have hz := T6.box 0 rfl
                          have z0 := cellAt hz 0 (v := .int .i64 0) rfl
                          have z1 := cellAt hz 1 (v := .int .i64 0) rfl
                          have z2 := cellAt hz 2 (v := .string ⟨#[]⟩) rfl
                          have z3 := frozenAt hz 0
                          have z4 := frozenAt hz 1
                          have z5 := frozenAt hz 2
                          try simp only [World.cell?_drew, World.frozen?_drew] at z0 z1 z2 z3 z4 z5
                          go_simp
                          clear hz z0 z1 z2 z3 z4 z5
                          clear hH
                          have T7 : Sep w ([boxR _ (.cells #[.int .i64 4, .int .i64 nx, .string ⟨#[]⟩] 31)] ++ baseB) _ := (Sep.setBox (cs := #[.int .i64 4, .int .i64 nx, .string ⟨#[]⟩]) (t := 31) (Sep.setBox (cs := #[.int .i64 4, .int .i64 0, .string ⟨#[]⟩]) (t := 31) (Sep.setBox (cs := #[.int .i64 0, .int .i64 0, .string ⟨#[]⟩]) (t := 31) T6 0 rfl 0 (.int .i64 4)) 0 rfl 1 (.int .i64 nx)) 0 rfl 2 (.string ⟨#[]⟩))
                          try simp only [size_drew, World.size_alloc] at T7
                          refine hK.out _ _ (KbaseB.out _ [_] T7) (fun hH => ?_)
                          clear hK K
                          refine takeT 16 hH (hy := .inl ⟨by rfl, by (intro w hSw; try obtain ⟨u0, u1, u2, v0⟩ := hSw); (go_simp; try rfl)⟩) (h := ?_)
                          simp only [Act.put, List.setIfInBounds_toArray, List.set_cons_zero, List.set_cons_succ]
                          refine wpAnyH_done (by kernel_rfl) ?_ _
                          as_aux_lemma =>
                            go_wp2_with fail
                            go_meet
                            exact ⟨_, rfl, rfl, T7⟩
                      · go_simp
                        have T8 : Sep w ([boxR _ (.cells #[.int .i64 0, .int .i64 0, .string ⟨#[]⟩] 31)] ++ baseA) _ := Sep.alloc T0 (.cells #[.int .i64 0, .int .i64 0, .string ⟨#[]⟩] 31)
                        try simp only [size_drew, World.size_alloc] at T8
                        clear hH
                        refine hK.out _ _ (KbaseA.out _ [_] T8) (fun hH => ?_)
                        clear hK K
                        refine readyT [9] ?_
                        refine consT (fun K hK => ?_) AllReadyH.nil
                        go_simp
                        go_wp2_with (go_at_call 23; refine (KP.out _ [_] T8).mono ?_; rintro e w9 ⟨rfl, T9⟩)
                        clear hH
                        refine hK.out _ _ (KbaseA.out _ [_] T9) (fun hH => ?_)
                        clear hK K
                        refine readyT [10] ?_
                        refine consT (fun K hK => ?_) AllReadyH.nil
                        go_simp
                        go_wp2_with (go_at_call 27; refine (KI.out _ [_] T9).mono ?_; rintro e w10 ⟨rfl, T10⟩)
                        clear hH
                        refine hK.out _ _ (KbaseB.out _ [_] T10) (fun hH => ?_)
                        clear hK K
                        refine takeT 11 hH (hy := .inl ⟨by rfl, by (intro w hSw; try obtain ⟨u0, u1, u2, v0⟩ := hSw); (go_simp; try rfl)⟩) (h := ?_)
                        simp only [Act.put, List.setIfInBounds_toArray, List.set_cons_zero, List.set_cons_succ]
                        refine takeT 12 hH (hy := .inl ⟨by rfl, by (intro w hSw; try obtain ⟨u0, u1, u2, v0⟩ := hSw); (go_simp; try rfl)⟩) (h := ?_)
                        simp only [Act.put, List.setIfInBounds_toArray, List.set_cons_zero, List.set_cons_succ]
                        refine takeT 13 hH (hy := .inl ⟨by rfl, by (intro w hSw; try obtain ⟨u0, u1, u2, v0⟩ := hSw); (go_simp; try rfl)⟩) (h := ?_)
                        simp only [Act.put, List.setIfInBounds_toArray, List.set_cons_zero, List.set_cons_succ]
                        refine readyT [15] ?_
                        refine consT (fun K hK => ?_) AllReadyH.nil
                        have hz := T10.box 0 rfl
                        have z0 := cellAt hz 0 (v := .int .i64 0) rfl
                        have z1 := cellAt hz 1 (v := .int .i64 0) rfl
                        have z2 := cellAt hz 2 (v := .string ⟨#[]⟩) rfl
                        have z3 := frozenAt hz 0
                        have z4 := frozenAt hz 1
                        have z5 := frozenAt hz 2
                        try simp only [World.cell?_drew, World.frozen?_drew] at z0 z1 z2 z3 z4 z5
                        go_simp
                        clear hz z0 z1 z2 z3 z4 z5
                        clear hH
                        have T11 : Sep w ([boxR _ (.cells #[.int .i64 4, .int .i64 nx, .string ⟨#[]⟩] 31)] ++ baseB) _ := (Sep.setBox (cs := #[.int .i64 4, .int .i64 nx, .string ⟨#[]⟩]) (t := 31) (Sep.setBox (cs := #[.int .i64 4, .int .i64 0, .string ⟨#[]⟩]) (t := 31) (Sep.setBox (cs := #[.int .i64 0, .int .i64 0, .string ⟨#[]⟩]) (t := 31) T10 0 rfl 0 (.int .i64 4)) 0 rfl 1 (.int .i64 nx)) 0 rfl 2 (.string ⟨#[]⟩))
                        try simp only [size_drew, World.size_alloc] at T11
                        refine hK.out _ _ (KbaseB.out _ [_] T11) (fun hH => ?_)
                        clear hK K
                        refine takeT 16 hH (hy := .inl ⟨by rfl, by (intro w hSw; try obtain ⟨u0, u1, u2, v0⟩ := hSw); (go_simp; try rfl)⟩) (h := ?_)
                        simp only [Act.put, List.setIfInBounds_toArray, List.set_cons_zero, List.set_cons_succ]
                        refine wpAnyH_done (by kernel_rfl) ?_ _
                        as_aux_lemma =>
                          go_wp2_with fail
                          go_meet
                          exact ⟨_, rfl, rfl, T11⟩
                  case rest =>
                    obtain ⟨q6, rfl, rfl, S⟩ := hcut
                    rw [HbaseB.out] at S
                    clear KP KI KbaseA HbaseA KbaseB HbaseB
                    replace S : Sep w (boxR q6 (.cells #[.int .i64 4, .int .i64 nx, .string ⟨#[]⟩] 31) :: valsR (.slice oe l2.length oc) l2 :: heapR h (H2.add (instO (H2.name p) (HeapM.name_le _ _) p)) :: boxR q (.cells #[.int .i64 4, .int .i64 ((k : Int) + 19), .string ⟨#[]⟩] 31) :: boxR ((b + 1)) (.cells #[.int .i64 0, .int .i64 0, .string ⟨#[]⟩] 31) :: boxR b (.cells #[.int .i64 a, .slice ba svs.length bc, .slice (some ⟨g1, o1, none⟩) I.length ic] 46) :: Rs) _ := S
                    have d0 := cellAt (S.box (b := q6) 0 rfl) 0 (v := .int .i64 4) rfl
                    have d1 := cellAt (S.box (b := q6) 0 rfl) 1 (v := .int .i64 nx) rfl
                    have d2 := cellAt (S.box (b := q6) 0 rfl) 2 (v := .string ⟨#[]⟩) rfl
                    have S8 := S.alloc (.cells #[.int .i64 4, .int .i64 nx, .string ⟨#[]⟩] 31)
                    have hone := Lib.hid (sees_one (f := V.cells) (m := 3) (y := V.ref nx HS.out.2.2) (heapAllocNew wc (.cells #[.int .i64 4, .int .i64 nx, .string ⟨#[]⟩] 31)) rfl)
                    replace S8 := Lib.hid S8
                    clear S
                    go_wp2_with (at_builtin; refine wpList_append_rows rfl _ _ 48 31 rfl Tryd.underlying48 _ 32 info_val rfl (by decide) (by decide) V.cells_len (by intro p u hu; simp [V.cells] at hu; rcases hu with rfl | rfl | rfl <;> rfl) S8.out 2 rfl rfl _ [V.ref nx HS.out.2.2] rfl hone.out (by simp; omega) ?_)
                    intro va vc w6 S9
                    have S10 : Hid (Sep w (valsR (.slice va (Y (i + 1)).2.length vc) (Y (i + 1)).2 :: heapR h (Y (i + 1)).1 :: boxR q (.cells #[.int .i64 4, .int .i64 ((k : Int) + 19), .string ⟨#[]⟩] 31) :: zeroB (b + 1) :: planB b a ba svs.length bc (some ⟨g1, o1, none⟩) I.length ic :: Rs) w6) := Lib.hid (by
                      rw [HS.out.1]
                      simp only [List.length_append, List.length_singleton]
                      exact S9.tail.tail)
                    clear S8 S9 hone d0 d1 d2
                    go_wp2
                    refine ⟨?_, ?measure⟩
                    iterate 29 apply Exists.intro
                    refine ⟨?rel, rfl⟩
                    case rel => exact ⟨i + 1, _, _, by have := HX.out.2; omega, by go_num, by rw [HS.out.1]; simp, S10.out⟩
                    case measure => have := HX.out.2; simp [intOf]; omega
                · have e : i = I.length := by omega
                  subst e
                  have hYE : (H2, l2) = laidM k B I := by rw [← HYE.out, HYI.out]
                  have hn19 : okI ((k : Int) + 19) := okI_of ⟨by omega, by omega⟩
                  have d0 := cellAt (S.box (b := q) 2 rfl) 0 (v := .int .i64 4) rfl
                  have d1 := cellAt (S.box (b := q) 2 rfl) 1 (v := .int .i64 ((k : Int) + 19)) rfl
                  have d2 := cellAt (S.box (b := q) 2 rfl) 2 (v := .string ⟨#[]⟩) rfl
                  have T1 : Sep w (zeroB (b + 1) :: valsR (.slice oe l2.length oc) l2 :: heapR h H2 :: boxR q (.cells #[.int .i64 4, .int .i64 ((k : Int) + 19), .string ⟨#[]⟩] 31) :: planB b a ba svs.length bc ia I.length ic :: Rs) wr := S.perm (List.perm_middle (l₁ := [_, _, _]))
                  have T2 : Sep w (valB (b + 1) (V.ref ((k : Int) + 19) hn19) :: _) (((wr.setCell ⟨b + 1, 0, none⟩ (.int .i64 4)).setCell ⟨b + 1, 1, none⟩ (.int .i64 ((k : Int) + 19))).setCell ⟨b + 1, 2, none⟩ (.string ⟨#[]⟩)) := Sep.setZero T1 (V.ref ((k : Int) + 19) hn19)
                  obtain ⟨v0, v1, v2, v3, v4, v5⟩ := valBlkO (x := V.zero) (T1.box 0 rfl)
                  simp only [V.zero] at v0 v1 v2
                  have t0 := cellAt (T2.box (b := b + 1) 0 rfl) 0 (v := .int .i64 4) rfl
                  have t1 := cellAt (T2.box (b := b + 1) 0 rfl) 1 (v := .int .i64 ((k : Int) + 19)) rfl
                  have t2 := cellAt (T2.box (b := b + 1) 0 rfl) 2 (v := .string ⟨#[]⟩) rfl
                  have HYE2 := Lib.hid (And.intro hYE HZ.out.1)
                  have HT := Lib.hid (T2.sub (.cons _ (.cons_cons _ (.cons_cons _ (.cons _ (.cons _ (List.Sublist.refl _)))))))
                  clear S T1 T2 hYE
                  go_wp2_with fail
                  go_region
                  go_wp2
                  refine bodyPost_ret (v := .tuple #[.pointer (some ⟨h, 0, none⟩), .agg #[.int .i64 4, .int .i64 ((k : Int) + 19), .string ⟨#[]⟩], .slice oe l2.length oc]) (by simp [results, Tryd.results22, go_sem, t0, t1, t2]) rfl ?_
                  have e := HYE2.out.1
                  rw [← e]
                  exact ⟨h, oe, oc, rfl, Sep.drew HT.out⟩
def BigDone (W : World) (a : Int) (B : List (List Int)) (I : List Int) (e : Ending) (W' : World) : Prop := ∃ r : Bool, e = .returned (.bool r) ∧ Below W.heap.size W W' ∧ (r = false → a ≤ 20 ∧ B.length ≤ 20 ∧ (∀ r ∈ B, r.length ≤ 6) ∧ I.length ≤ 20)
set_option maxRecDepth 100000 in
set_option maxHeartbeats 3200000 in
theorem Big_ok (P : PlanIn w ba bc svs B ia ic I) (hW : Below w.heap.size w W) (a : Int) :
    Calls Tryd.prog 21 #[.agg #[.int .i64 a, .slice ba svs.length bc, .slice ia I.length ic]] W (BigDone W a B I) := by
  have hbl : svs.length = B.length := P.ins.1
  have hall : (∀ (j : Nat) (r : List Int), j < svs.length → B[j]? = some r → r.length ≤ 6) → ∀ r ∈ B, r.length ≤ 6 := fun h r hr => by
    obtain ⟨j, hj, e⟩ := List.getElem_of_mem hr
    exact h j r (by omega) (by rw [List.getElem?_eq_getElem hj, e])
  obtain ⟨W1, hW1⟩ : ∃ W1, W1 = W.alloc (.cells #[.int .i64 a, .slice ba svs.length bc, .slice ia I.length ic] 46) := ⟨_, rfl⟩
  have hB1 : Below w.heap.size w W1 := by rw [hW1]; exact hW.alloc hW.size _
  have hBW : Below W.heap.size W W1 := by rw [hW1]; exact belowAlloc W _
  have hblk : W1.heap[W.heap.size]? = some (.cells #[.int .i64 a, .slice ba svs.length bc, .slice ia I.length ic] 46) := by rw [hW1]; exact heapAllocNew W _
  have c0 := cellAt hblk 0 (v := .int .i64 a) rfl
  have c1 := cellAt hblk 1 (v := .slice ba svs.length bc) rfl
  have c2 := cellAt hblk 2 (v := .slice ia I.length ic) rfl
  have hs1 : (svs.length : Int) ≤ 9223372036854775807 := by
    obtain ⟨_, _, e, q1, q2, _⟩ := P.rows W1 hB1
    unfold maxLen at q2; omega
  have hi1 : (I.length : Int) ≤ 9223372036854775807 := by
    obtain ⟨_, _, e, q1, q2, _⟩ := P.nums W1 hB1
    unfold maxLen at q2; omega
  obtain ⟨b, hb⟩ : ∃ gx_, (W.heap.size) = gx_ := ⟨_, rfl⟩
  rw [hb] at c0 c1 c2
  have HP := Lib.hid (And.intro P (And.intro hB1 (And.intro hBW (And.intro hbl hall))))
  clear P hW hB1 hbl hall hblk
  go_enter Tryd.func21, Tryd.ntmps21
  go_wp2_with fail
  rw [← hW1]
  try simp only [hb]
  clear hW1 hb hBW
  go_loopw [3] (fun iv wr => ∃ k : Nat, k ≤ svs.length ∧ iv = .int .i64 k ∧ (∀ (j : Nat) (r : List Int), j < k → B[j]? = some r → r.length ≤ 6) ∧ wr = W1) (fun iv _ => svs.length - (intOf iv).toNat)
  case atStart => exact ⟨0, by omega, rfl, fun j r h => by omega, rfl⟩
  case round =>
    obtain ⟨k, hk, rfl, hsm, rfl⟩ := hrel
    have HS := Lib.hid hsm
    clear hsm
    have hk1 : (k : Int) ≤ svs.length := by omega
    by_cases hkl : k < svs.length
    · have hkl1 : (k : Int) < svs.length := by omega
      have hk0 : (0 : Int) ≤ k := by omega
      by_cases h20 : svs.length ≤ 20
      · have h20' : (svs.length : Int) ≤ 20 := by omega
        obtain ⟨r, hr⟩ : ∃ r, B[k]? = some r := ⟨B[k]'(by have := HP.out.2.2.2.1; omega), by have := HP.out.2.2.2.1; simp [show k < B.length by omega]⟩
        obtain ⟨sv, hsv⟩ : ∃ sv, svs[k]? = some sv := ⟨svs[k], by simp [hkl]⟩
        obtain ⟨ra, rc, esv, k1, k2, k3⟩ := HP.out.1.ins.2 k sv r hsv hr wr HP.out.2.1
        obtain ⟨g0, o0, hba, cR⟩ := (HP.out.1.rows wr HP.out.2.1).slotF hsv
        rw [esv] at cR
        subst hba
        have hrl : (r.length : Int) ≤ 9223372036854775807 := by unfold maxLen at k2; omega
        have HR := Lib.hid (And.intro hr (And.intro hk hkl))
        clear hr hsv esv k1 k2 k3 hk hkl h20
        by_cases h6 : r.length ≤ 6
        · have h6' : (r.length : Int) ≤ 6 := by omega
          have H6 := Lib.hid h6
          clear h6
          go_wp2
          refine ⟨⟨k + 1, by have := HR.out.2.2; omega, by go_num, fun j r' hj hr' => ?_, ?_⟩, by have := HR.out.2.2; simp [intOf]; omega⟩
          by_cases e : j = k
          · subst e
            rw [HR.out.1] at hr'
            cases hr'; exact H6.out
          · exact HS.out j r' (by omega) hr'
          · first | trivial | rfl
        · have h6' : ¬ (r.length : Int) ≤ 6 := by omega
          clear h6
          go_wp2
          exact bodyPost_ret (v := .bool true) (by simp [results, Tryd.results21, go_sem] <;> omega) rfl ⟨true, rfl, HP.out.2.2.1, fun h => by cases h⟩
      · have h20' : ¬ (svs.length : Int) ≤ 20 := by omega
        clear h20 hk hkl
        by_cases ha : a ≤ 20
        · go_wp2
          exact bodyPost_ret (v := .bool true) (by simp [results, Tryd.results21, go_sem] <;> omega) rfl ⟨true, rfl, HP.out.2.2.1, fun h => by cases h⟩
        · go_wp2
          exact bodyPost_ret (v := .bool true) (by simp [results, Tryd.results21, go_sem] <;> omega) rfl ⟨true, rfl, HP.out.2.2.1, fun h => by cases h⟩
    · have hkl1 : ¬ (k : Int) < svs.length := by omega
      have hke : k = svs.length := by omega
      have HA := Lib.hid (HP.out.2.2.2.2 (fun j r h => HS.out j r (by omega)))
      have HL := Lib.hid HP.out.2.2.2.1
      clear hk hkl hke
      by_cases ha : a ≤ 20
      · by_cases h20 : svs.length ≤ 20
        · have h20' : (svs.length : Int) ≤ 20 := by omega
          by_cases hi : I.length ≤ 20
          · have hi' : (I.length : Int) ≤ 20 := by omega
            have HZ := Lib.hid (And.intro ha (And.intro h20 hi))
            clear h20 hi
            go_wp2
            exact bodyPost_ret (v := .bool false) (by simp [results, Tryd.results21, go_sem] <;> omega) rfl ⟨false, rfl, HP.out.2.2.1, fun _ => ⟨HZ.out.1, by rw [← HL.out]; exact HZ.out.2.1, HA.out, HZ.out.2.2⟩⟩
          · have hi' : ¬ (I.length : Int) ≤ 20 := by omega
            clear h20 hi
            go_wp2
            exact bodyPost_ret (v := .bool true) (by simp [results, Tryd.results21, go_sem] <;> omega) rfl ⟨true, rfl, HP.out.2.2.1, fun h => by cases h⟩
        · have h20' : ¬ (svs.length : Int) ≤ 20 := by omega
          clear h20
          go_wp2
          exact bodyPost_ret (v := .bool true) (by simp [results, Tryd.results21, go_sem] <;> omega) rfl ⟨true, rfl, HP.out.2.2.1, fun h => by cases h⟩
      · go_wp2
        exact bodyPost_ret (v := .bool true) (by simp [results, Tryd.results21, go_sem] <;> omega) rfl ⟨true, rfl, HP.out.2.2.1, fun h => by cases h⟩
/-- What laid gives. -/
structure LaidC (H : HeapM) (l : List V) (L : Int) : Prop where
  fit : H.Fit 5200
  cls : H.Cls
  boot : BootIn H L
  rng : 0 ≤ L ∧ L ≤ 20
  last : L + 19 ≤ H.last ∧ H.last ≤ 200
  all : ∀ v ∈ l, H.ClsOr v
  len : 17 ≤ l.length ∧ l.length ≤ 60
theorem laid_c (a : Nat) (ha : a ≤ 20) (B : List (List Int)) (hB : B.length ≤ 20) (I : List Int) (hI : I.length ≤ 20) : LaidC (laidM a B I).1 (laidM a B I).2 (a : Int) := by
  have A := laid_in a ha B hB I hI
  have R := (rows_in a ha B hB B.length (Nat.le_refl _)).len
  rw [List.take_length] at R
  have h1 := A.last
  have h2 := A.len
  exact ⟨A.fit, A.cls, A.boot, by omega, by omega, A.all, by omega⟩
theorem laid_all (S : Sep w Rs W) (hG : GlobF w) (P : PlanIn w ba bc svs B ia ic I) (a : Int) (D : a ≤ 20 ∧ B.length ≤ 20 ∧ (∀ r ∈ B, r.length ≤ 6) ∧ I.length ≤ 20) :
    Calls Tryd.prog 22 #[.agg #[.int .i64 a, .slice ba svs.length bc, .slice ia I.length ic]] W fun e W' => ∃ (h : Nat) (oa : Option Addr) (oc : Nat) (H : HeapM) (l : List V) (L : Int), e = .returned (.tuple #[.pointer (some ⟨h, 0, none⟩), .agg #[.int .i64 4, .int .i64 (L + 19), .string ⟨#[]⟩], .slice oa l.length oc]) ∧
      LaidC H l L ∧ Sep w (valsR (.slice oa l.length oc) l :: heapR h H :: Rs) W' :=
  (laid_ok S hG P a D.1 D.2.1 D.2.2.1 D.2.2.2).mono fun e W' ⟨h, oa, oc, e1, S'⟩ => ⟨h, oa, oc, _, _, _, e1, laid_c _ (by omega) B D.2.1 I D.2.2.2, S'⟩
end
end Go.Proofs.YtobcnffjfclolaaDoor
