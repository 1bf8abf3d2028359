/- ch 16: Cmp, op by op; order plainly. -/
import Derived.Test.YtellmfimmghidaaGreatOprF
import Derived.Test.YtellmfimmghidaaGreatLawO
namespace Go.Proofs.YtellmfimmghidaaGreat
set_option linter.unusedSimpArgs false
open Go.RowKit
set_option linter.unusedVariables false
section
variable {w W : World} {Rs : List Res} {h : Nat} {H : HeapM}
theorem cmp_lt (S : Sep w Rs W) (i : Nat) (hi : Rs[i]? = some (heapR h H)) (x y : V) (r : Value) (hr : r = cmpV (ordRes true false x y) false) :
    Calls Tryz.prog 18 #[.pointer (some ⟨h, 0, none⟩), .string ⟨#[60]⟩, .agg #[.int .i64 x.kind, .int .i64 x.n, .string x.s], .agg #[.int .i64 y.kind, .int .i64 y.n, .string y.s]] W fun e W' => e = .returned r ∧ Sep w Rs W' := by
  subst hr
  exact cmp_ord S i hi ⟨#[60]⟩ (by decide) false x y _ 1 true false (by decide) (fun m => rfl) (fun qb i S hi h1 h2 => orderOp_ok true false qb i S hi h1 h2 x y)
theorem cmp_le (S : Sep w Rs W) (i : Nat) (hi : Rs[i]? = some (heapR h H)) (x y : V) (r : Value) (hr : r = cmpV (ordRes true true x y) false) :
    Calls Tryz.prog 18 #[.pointer (some ⟨h, 0, none⟩), .string ⟨#[60, 61]⟩, .agg #[.int .i64 x.kind, .int .i64 x.n, .string x.s], .agg #[.int .i64 y.kind, .int .i64 y.n, .string y.s]] W fun e W' => e = .returned r ∧ Sep w Rs W' := by
  subst hr
  exact cmp_ord S i hi ⟨#[60, 61]⟩ (by decide) false x y _ 3 true true (by decide) (fun m => rfl) (fun qb i S hi h1 h2 => orderOp_ok true true qb i S hi h1 h2 x y)
theorem cmp_gt (S : Sep w Rs W) (i : Nat) (hi : Rs[i]? = some (heapR h H)) (x y : V) (r : Value) (hr : r = cmpV (ordRes false false x y) false) :
    Calls Tryz.prog 18 #[.pointer (some ⟨h, 0, none⟩), .string ⟨#[62]⟩, .agg #[.int .i64 x.kind, .int .i64 x.n, .string x.s], .agg #[.int .i64 y.kind, .int .i64 y.n, .string y.s]] W fun e W' => e = .returned r ∧ Sep w Rs W' := by
  subst hr
  exact cmp_ord S i hi ⟨#[62]⟩ (by decide) false x y _ 5 false false (by decide) (fun m => rfl) (fun qb i S hi h1 h2 => orderOp_ok false false qb i S hi h1 h2 x y)
theorem cmp_ge (S : Sep w Rs W) (i : Nat) (hi : Rs[i]? = some (heapR h H)) (x y : V) (r : Value) (hr : r = cmpV (ordRes false true x y) false) :
    Calls Tryz.prog 18 #[.pointer (some ⟨h, 0, none⟩), .string ⟨#[62, 61]⟩, .agg #[.int .i64 x.kind, .int .i64 x.n, .string x.s], .agg #[.int .i64 y.kind, .int .i64 y.n, .string y.s]] W fun e W' => e = .returned r ∧ Sep w Rs W' := by
  subst hr
  exact cmp_ord S i hi ⟨#[62, 61]⟩ (by decide) false x y _ 7 false true (by decide) (fun m => rfl) (fun qb i S hi h1 h2 => orderOp_ok false true qb i S hi h1 h2 x y)
/-- Same's answer, as a comparison's. -/
def sameC : Option Bool → CmpRes | some b => .ok b | none => .deep
theorem sameC_val (r : Option Bool) : (sameC r).val = sameV r := by cases r <;> rfl
theorem cmp_eq {N : Nat} (G : H.Good N) (hN : N ≤ 4000000) (S : Sep w Rs W) (i : Nat) (hi : Rs[i]? = some (heapR h H)) (x y : V) (r : Value) (hr : r = cmpV (sameC (H.sameF 30 x y)) false) :
    Calls Tryz.prog 18 #[.pointer (some ⟨h, 0, none⟩), .string ⟨#[61, 61]⟩, .agg #[.int .i64 x.kind, .int .i64 x.n, .string x.s], .agg #[.int .i64 y.kind, .int .i64 y.n, .string y.s]] W fun e W' => e = .returned r ∧ Sep w Rs W' := by
  subst hr
  exact cmp_same S i hi ⟨#[61, 61]⟩ (by decide) false x y _ (fun m => rfl) (fun i S hi => by rw [sameC_val]; exact sameOp_ok G hN i S hi x y)
theorem cmp_ne {N : Nat} (G : H.Good N) (hN : N ≤ 4000000) (S : Sep w Rs W) (i : Nat) (hi : Rs[i]? = some (heapR h H)) (x y : V) (r : Value) (hr : r = cmpV (sameC (H.sameF 30 x y)) true) :
    Calls Tryz.prog 18 #[.pointer (some ⟨h, 0, none⟩), .string ⟨#[33, 61]⟩, .agg #[.int .i64 x.kind, .int .i64 x.n, .string x.s], .agg #[.int .i64 y.kind, .int .i64 y.n, .string y.s]] W fun e W' => e = .returned r ∧ Sep w Rs W' := by
  subst hr
  exact cmp_same S i hi ⟨#[33, 61]⟩ (by decide) true x y _ (fun m => rfl) (fun i S hi => by rw [sameC_val]; exact sameOp_ok G hN i S hi x y)
end
/-- A heap without objects: two values are the same if they are the same one. -/
theorem same_empty (x y : V) : (⟨[], 0⟩ : HeapM).sameF 30 x y = some (decide (x = y)) := by
  have k : ∀ v : V, (⟨[], 0⟩ : HeapM).kind v = 0 := fun v => by unfold HeapM.kind HeapM.of; split <;> simp_all [getL]
  unfold HeapM.sameF HeapM.sameT HeapM.oneB HeapM.wholeB HeapM.rowB
  simp only [k]
  by_cases e : x = y <;> simp [e]
def vI (n : Int) (h : (Lit.int .i64 n).wf = true) : V := ⟨2, n, ⟨#[]⟩, by decide, h, by decide⟩
def vS (s : ByteArray) (h : s.size ≤ maxLen) : V := ⟨3, 0, s, by decide, by decide, h⟩
theorem ordB_lt : ordB true false (-1) = true ∧ ordB true false 0 = false ∧ ordB true false 1 = false := by decide
theorem vI_eq (n m : Int) (hn hm) : (vI n hn = vI m hm) ↔ n = m := by unfold vI; simp
theorem vS_eq (s t : ByteArray) (hs ht) : (vS s hs = vS t ht) ↔ s = t := by unfold vS; simp
/-- What the five comparisons tell. -/
structure Ord5 (x y : V) (l e g : Bool) : Prop where
  lt : ordRes true false x y = .ok l
  gt : ordRes false false x y = .ok g
  eq : decide (x = y) = e
  le : ordRes true true x y = .ok (!g)
  ge : ordRes false true x y = .ok (!l)
theorem ord5_int (n m : Int) (hn hm) :
    (n < m ∧ Ord5 (vI n hn) (vI m hm) true false false) ∨ (n = m ∧ Ord5 (vI n hn) (vI m hm) false true false) ∨ (m < n ∧ Ord5 (vI n hn) (vI m hm) false false true) := by
  have k : ∀ lo eq, ordRes lo eq (vI n hn) (vI m hm) = .ok (ordB lo eq (cmpB n m)) := fun lo eq => rfl
  rcases Int.lt_trichotomy n m with h | h | h
  · refine .inl ⟨h, ?_⟩
    have c : cmpB n m = -1 := by unfold cmpB; rw [if_pos h]
    have ne : n ≠ m := by omega
    exact ⟨by rw [k, c]; rfl, by rw [k, c]; rfl, by simp [vI_eq, ne], by rw [k, c]; rfl, by rw [k, c]; rfl⟩
  · refine .inr (.inl ⟨h, ?_⟩)
    have c : cmpB n m = 0 := by unfold cmpB; rw [if_neg (by omega), if_neg (by omega)]
    exact ⟨by rw [k, c]; rfl, by rw [k, c]; rfl, by simp [vI_eq, h], by rw [k, c]; rfl, by rw [k, c]; rfl⟩
  · refine .inr (.inr ⟨h, ?_⟩)
    have c : cmpB n m = 1 := by unfold cmpB; rw [if_neg (by omega), if_pos h]
    have ne : n ≠ m := by omega
    exact ⟨by rw [k, c]; rfl, by rw [k, c]; rfl, by simp [vI_eq, ne], by rw [k, c]; rfl, by rw [k, c]; rfl⟩
theorem cmpL_eq : ∀ x y : List UInt8, cmpL x y = 0 ↔ x = y
  | [], [] => by simp [cmpL]
  | [], _ :: _ => by simp [cmpL]
  | _ :: _, [] => by simp [cmpL]
  | a :: x, b :: y => by
    rw [cmpL]
    by_cases h1 : a.toNat < b.toNat
    · rw [if_pos h1]; simp; intro e; rw [e] at h1; omega
    · rw [if_neg h1]
      by_cases h2 : a.toNat > b.toNat
      · rw [if_pos h2]; simp; intro e; rw [e] at h2; omega
      · rw [if_neg h2, cmpL_eq x y]
        have : a = b := UInt8.toNat_inj.1 (by omega)
        simp [this]
theorem cmpL_less : ∀ x y : List UInt8, Op.bytesLess x y = decide (cmpL x y = -1)
  | [], [] => by simp [cmpL, Op.bytesLess]
  | [], _ :: _ => by simp [cmpL, Op.bytesLess]
  | _ :: _, [] => by simp [cmpL, Op.bytesLess]
  | a :: x, b :: y => by
    rw [cmpL, Op.bytesLess]
    by_cases h1 : a.toNat < b.toNat
    · rw [if_pos h1]; have : a < b := h1; simp [this]
    · rw [if_neg h1]
      have n1 : ¬ a < b := h1
      by_cases h2 : a.toNat > b.toNat
      · rw [if_pos h2]
        have : a ≠ b := fun e => by rw [e] at h2; omega
        simp [n1, this]
      · rw [if_neg h2]
        have : a = b := UInt8.toNat_inj.1 (by omega)
        simp [this, cmpL_less x y]
theorem ord5_str (s t : ByteArray) (hs ht) :
    (Op.bytesLess s.data.toList t.data.toList = true ∧ Ord5 (vS s hs) (vS t ht) true false false) ∨ (Op.bytesLess s.data.toList t.data.toList = false ∧ Ord5 (vS s hs) (vS t ht) false true false) ∨ (Op.bytesLess s.data.toList t.data.toList = false ∧ Ord5 (vS s hs) (vS t ht) false false true) := by
  have k : ∀ lo eq, ordRes lo eq (vS s hs) (vS t ht) = .ok (ordB lo eq (cmpL s.data.toList t.data.toList)) := fun lo eq => rfl
  rw [cmpL_less]
  have e0 : (s = t) ↔ cmpL s.data.toList t.data.toList = 0 := by
    rw [cmpL_eq]
    cases s; cases t
    simp [Array.toList_inj]
  rcases cmpL_three s.data.toList t.data.toList with c | c | c
  · refine .inr (.inl ⟨by rw [c]; rfl, ?_⟩)
    exact ⟨by rw [k, c]; rfl, by rw [k, c]; rfl, by simp [vS_eq, e0, c], by rw [k, c]; rfl, by rw [k, c]; rfl⟩
  · refine .inr (.inr ⟨by rw [c]; rfl, ?_⟩)
    exact ⟨by rw [k, c]; rfl, by rw [k, c]; rfl, by simp [vS_eq, e0, c], by rw [k, c]; rfl, by rw [k, c]; rfl⟩
  · refine .inl ⟨by rw [c]; rfl, ?_⟩
    exact ⟨by rw [k, c]; rfl, by rw [k, c]; rfl, by simp [vS_eq, e0, c], by rw [k, c]; rfl, by rw [k, c]; rfl⟩
end Go.Proofs.YtellmfimmghidaaGreat
