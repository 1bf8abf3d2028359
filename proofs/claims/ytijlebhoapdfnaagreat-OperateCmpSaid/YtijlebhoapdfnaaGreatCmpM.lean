/- ch 16: what comparisons tell, by any word. -/
import Derived.Test.YtijlebhoapdfnaaGreatInR
import Derived.Test.YtijlebhoapdfnaaGreatLawC
import Derived.Test.YtijlebhoapdfnaaGreatCmpN
import Derived.Test.YtijlebhoapdfnaaGreatOperM
/- ch 16: what an operator tells, or what is raised (plain). -/
namespace Go.Proofs.YtijlebhoapdfnaaGreat
set_option linter.unusedSimpArgs false
open Go.RowKit
set_option linter.unusedVariables false
/-- A value, or what is raised: by its name; with what, if it has an argument. -/
structure AnsM where
 v : V
 nm : ByteArray
 ar : V
 has : Bool
def ansV (v : V) : AnsM := ⟨v, ⟨#[]⟩, V.zero, false⟩
def ansN (s : ByteArray) : AnsM := ⟨V.zero, s, V.zero, false⟩
abbrev AnsM.exc (r : AnsM) : Value := .agg #[.string r.nm, .int .i64 r.ar.kind, .int .i64 r.ar.n, .string r.ar.s, .bool r.has]
abbrev AnsM.val (r : AnsM) : Value := .tuple #[.agg #[.int .i64 r.v.kind, .int .i64 r.v.n, .string r.v.s], r.exc]
/-- A bool, an int, a str. -/
def bV (b : Bool) : V := ⟨1, if b = true then 1 else 0, ⟨#[]⟩, by decide, by cases b <;> decide, by decide⟩
end Go.Proofs.YtijlebhoapdfnaaGreat
namespace Go.Proofs.YtijlebhoapdfnaaGreat
set_option linter.unusedSimpArgs false
open Go.RowKit
set_option linter.unusedVariables false
/-- The words that turn it about. -/
def ntB (op : ByteArray) : Bool := decide (op = ⟨#[33, 61]⟩) || (decide (op = ⟨#[105, 115, 32, 110, 111, 116]⟩) || decide (op = ⟨#[110, 111, 116, 32, 105, 110]⟩))
def HeapM.cmpR (H : HeapM) (op : ByteArray) (x y : V) : CmpRes :=
 if op = ⟨#[61, 61]⟩ ∨ op = ⟨#[33, 61]⟩ then sameC (H.sameF 30 x y)
 else if op = ⟨#[105, 115]⟩ ∨ op = ⟨#[105, 115, 32, 110, 111, 116]⟩ then .ok (H.oneB x y)
 else if op = ⟨#[105, 110]⟩ ∨ op = ⟨#[110, 111, 116, 32, 105, 110]⟩ then H.inC x y
 else if op = ⟨#[60]⟩ then ordRes true false x y
 else if op = ⟨#[60, 61]⟩ then ordRes true true x y
 else if op = ⟨#[62]⟩ then ordRes false false x y
 else if op = ⟨#[62, 61]⟩ then ordRes false true x y
 else .type
theorem ops_all (op : ByteArray) : (op = ⟨#[61, 61]⟩ ∨ op = ⟨#[33, 61]⟩) ∨ (op = ⟨#[105, 115]⟩ ∨ op = ⟨#[105, 115, 32, 110, 111, 116]⟩) ∨ (op = ⟨#[105, 110]⟩ ∨ op = ⟨#[110, 111, 116, 32, 105, 110]⟩) ∨ (op = ⟨#[60]⟩ ∨ op = ⟨#[60, 61]⟩ ∨ op = ⟨#[62]⟩ ∨ op = ⟨#[62, 61]⟩) ∨
  (¬ (op = ⟨#[61, 61]⟩ ∨ op = ⟨#[33, 61]⟩) ∧ ¬ (op = ⟨#[105, 115]⟩ ∨ op = ⟨#[105, 115, 32, 110, 111, 116]⟩) ∧ ¬ (op = ⟨#[105, 110]⟩ ∨ op = ⟨#[110, 111, 116, 32, 105, 110]⟩) ∧ ¬ (op = ⟨#[60]⟩ ∨ op = ⟨#[60, 61]⟩ ∨ op = ⟨#[62]⟩ ∨ op = ⟨#[62, 61]⟩)) := by
 by_cases h1 : op = ⟨#[61, 61]⟩ ∨ op = ⟨#[33, 61]⟩
 ·
  exact .inl h1
 by_cases h2 : op = ⟨#[105, 115]⟩ ∨ op = ⟨#[105, 115, 32, 110, 111, 116]⟩
 ·
  exact .inr (.inl h2)
 by_cases h3 : op = ⟨#[105, 110]⟩ ∨ op = ⟨#[110, 111, 116, 32, 105, 110]⟩
 ·
  exact .inr (.inr (.inl h3))
 by_cases h4 : op = ⟨#[60]⟩ ∨ op = ⟨#[60, 61]⟩ ∨ op = ⟨#[62]⟩ ∨ op = ⟨#[62, 61]⟩
 ·
  exact .inr (.inr (.inr (.inl h4)))
 ·
  exact .inr (.inr (.inr (.inr ⟨h1, h2, h3, h4⟩)))
theorem cmpR_same {H : HeapM} {op : ByteArray} {x y : V} (h : op = ⟨#[61, 61]⟩ ∨ op = ⟨#[33, 61]⟩) : H.cmpR op x y = sameC (H.sameF 30 x y) := by unfold HeapM.cmpR; rw [if_pos h]
theorem cmpR_is {H : HeapM} {op : ByteArray} {x y : V} (h : op = ⟨#[105, 115]⟩ ∨ op = ⟨#[105, 115, 32, 110, 111, 116]⟩) : H.cmpR op x y = .ok (H.oneB x y) := by rcases h with rfl | rfl <;> rfl
theorem cmpR_in {H : HeapM} {op : ByteArray} {x y : V} (h : op = ⟨#[105, 110]⟩ ∨ op = ⟨#[110, 111, 116, 32, 105, 110]⟩) : H.cmpR op x y = H.inC x y := by rcases h with rfl | rfl <;> rfl
theorem cmpR_no {H : HeapM} {op : ByteArray} {x y : V} (h1 : ¬ (op = ⟨#[61, 61]⟩ ∨ op = ⟨#[33, 61]⟩)) (h2 : ¬ (op = ⟨#[105, 115]⟩ ∨ op = ⟨#[105, 115, 32, 110, 111, 116]⟩)) (h3 : ¬ (op = ⟨#[105, 110]⟩ ∨ op = ⟨#[110, 111, 116, 32, 105, 110]⟩)) (h4 : ¬ (op = ⟨#[60]⟩ ∨ op = ⟨#[60, 61]⟩ ∨ op = ⟨#[62]⟩ ∨ op = ⟨#[62, 61]⟩)) : H.cmpR op x y = .type := by
 unfold HeapM.cmpR
 rw [if_neg h1, if_neg h2, if_neg h3, if_neg (fun e => h4 (.inl e)), if_neg (fun e => h4 (.inr (.inl e))), if_neg (fun e => h4 (.inr (.inr (.inl e)))), if_neg (fun e => h4 (.inr (.inr (.inr e))))]
/-- The sign that an order goes by. -/
def ordC (x y : V) : Option Int :=
 if x.kind = 2 ∧ y.kind = 2 then some (cmpB x.n y.n) else if x.kind = 3 ∧ y.kind = 3 then some (cmpL x.s.data.toList y.s.data.toList) else none
def ordW (op : ByteArray) (c : Int) : Bool :=
 if op = ⟨#[60]⟩ then decide (c < 0) else if op = ⟨#[60, 61]⟩ then decide (c ≤ 0) else if op = ⟨#[62]⟩ then decide (0 < c) else decide (0 ≤ c)
theorem cmpR_ord {H : HeapM} {op : ByteArray} {x y : V} {c : Int} (h : op = ⟨#[60]⟩ ∨ op = ⟨#[60, 61]⟩ ∨ op = ⟨#[62]⟩ ∨ op = ⟨#[62, 61]⟩) (hc : ordC x y = some c) : H.cmpR op x y = .ok (ordW op c) := by
 have e1 : ordB true false c = decide (c < 0) := by unfold ordB; by_cases h0 : c = 0 <;> by_cases h1 : c < 0 <;> simp [h0, h1]
 have e2 : ordB true true c = decide (c ≤ 0) := by unfold ordB; by_cases h0 : c = 0 <;> by_cases h1 : c < 0 <;> simp [h0, h1] <;> omega
 have e3 : ordB false false c = decide (0 < c) := by unfold ordB; by_cases h0 : c = 0 <;> by_cases h1 : c < 0 <;> simp [h0, h1] <;> omega
 have e4 : ordB false true c = decide (0 ≤ c) := by unfold ordB; by_cases h0 : c = 0 <;> by_cases h1 : c < 0 <;> simp [h0, h1] <;> omega
 have key : ∀ lo eq, ordRes lo eq x y = .ok (ordB lo eq c) := fun lo eq => by
  unfold ordC at hc
  unfold ordRes
  split at hc
  ·
   rename_i hh; rw [if_pos hh, Option.some.inj hc]
  ·
   rename_i hh
   rw [if_neg hh]
   split at hc
   ·
    rename_i h2; rw [if_pos h2, Option.some.inj hc]
   ·
    cases hc
 rcases h with rfl | rfl | rfl | rfl
 ·
  show ordRes true false x y = _; rw [key, e1]; rfl
 ·
  show ordRes true true x y = _; rw [key, e2]; rfl
 ·
  show ordRes false false x y = _; rw [key, e3]; rfl
 ·
  show ordRes false true x y = _; rw [key, e4]; rfl
theorem cmpR_ord_no {H : HeapM} {op : ByteArray} {x y : V} (h : op = ⟨#[60]⟩ ∨ op = ⟨#[60, 61]⟩ ∨ op = ⟨#[62]⟩ ∨ op = ⟨#[62, 61]⟩) (h1 : ¬ (x.kind = 2 ∧ y.kind = 2)) (h2 : ¬ (x.kind = 3 ∧ y.kind = 3)) : H.cmpR op x y = .type := by
 have key : ∀ lo eq, ordRes lo eq x y = .type := fun lo eq => by unfold ordRes; rw [if_neg h1, if_neg h2]
 rcases h with rfl | rfl | rfl | rfl <;> exact key _ _
theorem lit_ne {op w : ByteArray} (h : op ≠ w) : (op.toList == w.data.toList) = false := by
 rw [ByteArray.toList_eq]
 exact beq_eq_false_iff_ne.2 fun e => h (ByteArray.ext (Array.toList_inj.1 e))
/-- A bool and a name are this answer. -/
def cmpC (b : Bool) (nm : ByteArray) : CmpRes → Prop
 | .ok c => b = c ∧ nm = ⟨#[]⟩
 | .type => nm = typeError
 | .deep => nm = recursionError
theorem val_c (q : CmpRes) : ∃ (b : Bool) (nm : ByteArray), q.val = .tuple #[.bool b, excN nm] ∧ cmpC b nm q := by
 cases q with
 | ok c => exact ⟨c, _, rfl, rfl, rfl⟩
 | type => exact ⟨false, _, rfl, rfl⟩
 | deep => exact ⟨false, _, rfl, rfl⟩
theorem sameV_c (r : Option Bool) : ∃ (b : Bool) (nm : ByteArray), sameV r = .tuple #[.bool b, excN nm] ∧ cmpC b nm (sameC r) := by
 rw [← sameC_val]; exact val_c _
def CmpRes.ans : CmpRes → Bool → AnsM
 | .ok c, nt => ansV (bV (c != nt))
 | .type, _ => ansN typeError
 | .deep, _ => ansN recursionError
theorem cmpV_ans (q : CmpRes) (nt : Bool) : cmpV q nt = (q.ans nt).val := by cases q <;> rfl
section
variable {w W : World} {Rs : List Res} {h : Nat} {H : HeapM}
theorem cmp_any {N : Nat} (G : H.Good N) (hN : N ≤ 4000000) (op : ByteArray) (hop : op.size ≤ maxLen) (x y : V) (hsz : y.s.size < 4294967281) (m : Int) (hm : w.cell? ⟨0, 0, none⟩ = some (.int .i64 m)) (S : Sep w Rs W) (i : Nat) (hi : Rs[i]? = some (heapR h H)) : Calls Tryz.prog 25 #[.pointer (some ⟨h, 0, none⟩), .string op, .agg #[.int .i64 x.kind, .int .i64 x.n, .string x.s], .agg #[.int .i64 y.kind, .int .i64 y.n, .string y.s]] W fun e W' => e = .returned (cmpV (H.cmpR op x y) (ntB op)) ∧ Sep w Rs W' := by
 rcases ops_all op with (rfl | rfl) | (rfl | rfl) | (rfl | rfl) | (rfl | rfl | rfl | rfl) | ⟨h1, h2, h3, h4⟩
 ·
  exact cmp_eq G hN S i hi x y _ rfl
 ·
  exact cmp_ne G hN S i hi x y _ rfl
 ·
  exact cmp_is S i hi _ (by decide) false x y (.ok (H.oneB x y)) (fun m => rfl) (fun j S' hj => isOp_ok j S' hj x y)
 ·
  exact cmp_is S i hi _ (by decide) true x y (.ok (H.oneB x y)) (fun m => rfl) (fun j S' hj => isOp_ok j S' hj x y)
 ·
  exact cmp_isin G hN x y hsz m hm S i hi
 ·
  exact cmp_notin G hN x y hsz m hm S i hi
 ·
  exact cmp_lt S i hi x y _ rfl
 ·
  exact cmp_le S i hi x y _ rfl
 ·
  exact cmp_gt S i hi x y _ rfl
 ·
  exact cmp_ge S i hi x y _ rfl
 ·
  rw [cmpR_no h1 h2 h3 h4]
  refine cmp_unknown S op hop x y (fun m => ?_)
  simp only [not_or] at h1 h2 h3 h4
  simp only [cmpTab, getL]
  simp [h1.1, h1.2, h2.1, h2.2, h3.1, h3.2, h4.1, h4.2.1, h4.2.2.1, h4.2.2.2, Ne.symm]
end
end Go.Proofs.YtijlebhoapdfnaaGreat
