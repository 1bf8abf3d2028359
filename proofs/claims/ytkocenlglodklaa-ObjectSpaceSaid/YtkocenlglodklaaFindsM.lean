/- What an instance finds, plainly. -/
import Derived.Test.YtkocenlglodklaaClsM
namespace Go.Proofs.Ytkocenlglodklaa
set_option linter.unusedSimpArgs false
open Go.RowKit
set_option linter.unusedVariables false
theorem of_del (H : HeapM) (v k y : V) : (H.del v k).of y = match H.of y with
    | none => none
    | some o => some (if y.n = v.n ∧ (H.of v).isSome = true then { o with pairs := delL o.pairs k } else o) := by
  unfold HeapM.del
  cases g : H.of v with
  | none => simp; cases H.of y <;> rfl
  | some ov =>
    simp only [Option.isSome_some, and_true]
    have gv := HeapM.of_some g
    unfold HeapM.of HeapM.set
    by_cases hk : y.kind = 4
    · rw [if_pos hk, if_pos hk]
      simp only
      rw [getL_mapset]
      by_cases hn : y.n = v.n
      · rw [if_pos hn, hn, gv.2]; simp
      · rw [if_neg hn]; cases getL H.objs y.n <;> simp [hn]
    · rw [if_neg hk, if_neg hk]
theorem pairsOk_del14 {L : List (V × V)} (h : PairsOk L) (k : V) : PairsOk (delL L k) :=
  ⟨h.nd.sublist (List.Sublist.map _ List.filter_sublist), fun q hq => h.key q (List.mem_filter.1 hq).1, Nat.le_trans (delL_len L k) h.len⟩
theorem fit_del14 {H : HeapM} {N : Nat} (h : H.Fit N) (v k : V) : (H.del v k).Fit N := by
  have G := h.G.del v k
  revert G
  unfold HeapM.del
  cases g : H.of v with
  | none => exact fun G => h
  | some o => exact fun G => h.set g _ rfl (pairsOk_del14 (h.P _ (getL_mem (HeapM.of_some g).2)) k) G
/-- The classes are as they were. -/
theorem find_same {H H' : HeapM} (C : H.Cls) {c : V} (hc : H.isClass c = true) (hr : c = c.asRef) (h : ∀ x, H.isClass x = true → H'.of x = H.of x) (k : V) : H'.isClass c = true ∧ H'.order c = H.order c ∧ H'.find c k = H.find c k := by
  have hk : ∀ x, H.isClass x = true → H'.isClass x = true := fun x hx => by
    unfold HeapM.isClass HeapM.kind at hx ⊢
    rw [h x hx]; exact hx
  have ho : H'.order c = H.order c := by
    rw [C.order hc]
    unfold HeapM.order
    rw [if_pos (hk c hc)]
    congr 1
    have hi : H'.items c = H.items c := by unfold HeapM.items; rw [h c hc]
    rw [hi, List.filter_eq_self.2 fun x hx => hk x (C.items c hc x hx).1]
    conv => rhs; rw [← List.map_id (H.items c)]
    exact List.map_congr_left fun x hx => (C.items c hc x hx).2.1.symm
  refine ⟨hk c hc, ho, ?_⟩
  unfold HeapM.find
  rw [ho]
  have : ∀ L : List V, (∀ x ∈ L, H.isClass x = true) → L.findSome? (fun c => H'.get c k) = L.findSome? (fun c => H.get c k) := fun L => by
    induction L with
    | nil => intro _; rfl
    | cons x r ih =>
      intro hL
      have e : H'.get x k = H.get x k := by unfold HeapM.get HeapM.pairs; rw [h x (hL x (by simp))]
      rw [List.findSome?_cons, List.findSome?_cons, e, ih fun y hy => hL y (List.mem_cons_of_mem _ hy)]
  exact this _ fun x hx => (C.order_mem hx).2.1
/-- What an instance answers. -/
theorem getA_inst {H : HeapM} {r c : V} {o : ObjM} (ho : H.of r = some o) (hk : o.kind = 6) (hi : o.items = [c]) (hc : H.isClass c = true) (hr : c = c.asRef) (k : V) :
    H.opens r = true ∧ H.ofM r = some c ∧ H.getA r k = match getL o.pairs k with
      | some x => some (x.val, H)
      | none => (H.find c k).map fun x => H.boundM r x := by
  have h1 : H.kind r = 6 := by unfold HeapM.kind; rw [ho]; exact hk
  have h2 : H.isClass r = false := by unfold HeapM.isClass; rw [h1]; rfl
  have h3 : (H.at r 0).getD V.zero = c := by
    unfold HeapM.at HeapM.items
    rw [ho]
    simp [hi]
  have h4 : H.ofM r = some c := by
    unfold HeapM.ofM
    rw [h3, if_pos ⟨h1, hc⟩, ← hr]
  refine ⟨by unfold HeapM.opens; rw [h4]; rfl, h4, ?_⟩
  unfold HeapM.getA
  rw [if_neg (by rw [h2]; simp), h4]
  simp only [Option.isSome_some, if_true, Option.bind_some]
  have h5 : H.get r k = getL o.pairs k := by unfold HeapM.get HeapM.pairs; rw [ho]; rfl
  rw [h5]
  cases getL o.pairs k <;> rfl
theorem bound_int {H : HeapM} {r x : V} (hx : x.kind = 2) : H.boundM r x = (x.val, H) := by
  have : H.kind x ≠ 4 := by
    unfold HeapM.kind HeapM.of
    rw [if_neg (by omega)]; simp
  unfold HeapM.boundM
  rw [if_neg this]; rfl
theorem find_int {H : HeapM} (P : H.Plain) {c k x : V} (h : H.find c k = some x) : x.kind = 2 := by
  unfold HeapM.find at h
  obtain ⟨y, _, hy⟩ := List.exists_of_findSome?_eq_some h
  have hp := plain_pairs P y
  unfold HeapM.get at hy
  exact hp.2 (k, x) (getL_mem hy)
section
variable {H : HeapM} {out : List V} {c : V}
def inst1 (H : HeapM) (c : V) : HeapM := H.add (instO (H.name c) (HeapM.name_le H c) c)
/-- The three heaps: an instance is made, it is given an attribute, that is taken away. -/
theorem finds_plain (M : MInv H out 12) (hc : H.isClass c = true) (hr : c = c.asRef) (hn : okI (H.last + 1)) (k y : V) (hk : k.isKey = true) :
    ((inst1 H c).opens (V.ref (H.last + 1) hn) = true ∧ (inst1 H c).getA (V.ref (H.last + 1) hn) k = (H.find c k).map (fun x => (x.val, inst1 H c)) ∧ (inst1 H c).canPut (V.ref (H.last + 1) hn) k = true) ∧
    (((inst1 H c).put (V.ref (H.last + 1) hn) k y).opens (V.ref (H.last + 1) hn) = true ∧ ((inst1 H c).put (V.ref (H.last + 1) hn) k y).getA (V.ref (H.last + 1) hn) k = some (y.val, (inst1 H c).put (V.ref (H.last + 1) hn) k y) ∧
      ((inst1 H c).put (V.ref (H.last + 1) hn) k y).find c k = H.find c k ∧ ((inst1 H c).put (V.ref (H.last + 1) hn) k y).has (V.ref (H.last + 1) hn) k = true) ∧
    ((((inst1 H c).put (V.ref (H.last + 1) hn) k y).del (V.ref (H.last + 1) hn) k).opens (V.ref (H.last + 1) hn) = true ∧
      (((inst1 H c).put (V.ref (H.last + 1) hn) k y).del (V.ref (H.last + 1) hn) k).getA (V.ref (H.last + 1) hn) k = (H.find c k).map (fun x => (x.val, ((inst1 H c).put (V.ref (H.last + 1) hn) k y).del (V.ref (H.last + 1) hn) k)) ∧
      (((inst1 H c).put (V.ref (H.last + 1) hn) k y).del (V.ref (H.last + 1) hn) k).has (V.ref (H.last + 1) hn) k = false) := by
  obtain ⟨r, hrr⟩ : ∃ r, r = V.ref (H.last + 1) hn := ⟨_, rfl⟩
  rw [← hrr]
  have hrn : r.n = H.last + 1 := by rw [hrr]; rfl
  have hrk : r.kind = 4 := by rw [hrr]; rfl
  have o1 : (inst1 H c).of r = some (instO (H.name c) (HeapM.name_le H c) c) := by unfold inst1; rw [of_add M.fit.G, if_pos ⟨hrk, hrn⟩]
  have s1 : ∀ x, H.isClass x = true → (inst1 H c).of x = H.of x := fun x hx => by
    have := class_le M.fit.G hx
    unfold inst1; rw [of_add M.fit.G, if_neg (by omega)]
  have cp : (inst1 H c).canPut r k = true := by
    unfold HeapM.canPut; rw [o1]
    simp [putOk, instO, hk]
  have o2 : ((inst1 H c).put r k y).of r = some { instO (H.name c) (HeapM.name_le H c) c with pairs := [(k, y)] } := by
    rw [of_put, o1]
    simp [cp, instO, putL, getL]
  have s2 : ∀ x, H.isClass x = true → ((inst1 H c).put r k y).of x = H.of x := fun x hx => by
    have hl := class_le M.fit.G hx
    rw [of_put, s1 x hx]
    cases H.of x with
    | none => rfl
    | some o => simp only; rw [if_neg (by omega)]
  have o3 : (((inst1 H c).put r k y).del r k).of r = some { instO (H.name c) (HeapM.name_le H c) c with pairs := [] } := by
    rw [of_del, o2]
    simp [delL]
  have s3 : ∀ x, H.isClass x = true → (((inst1 H c).put r k y).del r k).of x = H.of x := fun x hx => by
    have hl := class_le M.fit.G hx
    rw [of_del, s2 x hx]
    cases H.of x with
    | none => rfl
    | some o => simp only; rw [if_neg (by omega)]
  have f1 := find_same M.cls hc hr s1 k
  have f2 := find_same M.cls hc hr s2 k
  have f3 := find_same M.cls hc hr s3 k
  have ci : (instO (H.name c) (HeapM.name_le H c) c).items = [c] := by unfold instO; rw [← hr]
  have g1 := getA_inst o1 rfl ci f1.1 hr k
  have g2 := getA_inst o2 rfl ci f2.1 hr k
  have g3 := getA_inst o3 rfl ci f3.1 hr k
  have bi : ∀ H' : HeapM, (H.find c k).map (fun x => H'.boundM r x) = (H.find c k).map (fun x => (x.val, H')) := fun H' => by
    cases hf : H.find c k with
    | none => rfl
    | some x => simp only [Option.map_some]; rw [bound_int (find_int M.pl hf)]
  refine ⟨⟨g1.1, ?_, cp⟩, ⟨g2.1, ?_, f2.2.2, ?_⟩, ⟨g3.1, ?_, ?_⟩⟩
  · rw [g1.2.2, show (instO (H.name c) (HeapM.name_le H c) c).pairs = [] from rfl]
    simp only [getL, List.find?_nil, Option.map_none]
    rw [f1.2.2, bi]
  · rw [g2.2.2]
    simp [getL]
  · unfold HeapM.has; rw [o2]; simp [getL]
  · rw [g3.2.2]
    simp only [getL, List.find?_nil, Option.map_none]
    rw [f3.2.2, bi]
  · unfold HeapM.has; rw [o3]; simp [getL]
end
theorem and_mask3 (x : Int) : ∃ m : Nat, m < 4 ∧ bits .and .i64 x 3 = (m : Int) := by
  have h : (BitVec.ofInt 64 x &&& BitVec.ofInt 64 3).toNat ≤ 3 := by
    rw [BitVec.toNat_and]; exact Nat.le_trans Nat.and_le_right (by decide)
  have e : bits .and .i64 x 3 = IntKind.wrap .i64 ((BitVec.ofInt 64 x &&& BitVec.ofInt 64 3).toNat : Int) := rfl
  have e2 : IntKind.wrap .i64 ((BitVec.ofInt 64 x &&& BitVec.ofInt 64 3).toNat : Int) = ((BitVec.ofInt 64 x &&& BitVec.ofInt 64 3).toNat : Int) := IntWalk.i64_in _ (by omega)
  exact ⟨_, by omega, e.trans e2⟩
end Go.Proofs.Ytkocenlglodklaa
