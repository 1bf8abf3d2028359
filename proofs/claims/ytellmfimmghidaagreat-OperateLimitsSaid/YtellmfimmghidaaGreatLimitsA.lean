/-
  OperateLimits, where all fits.
-/
import Derived.Test.YtellmfimmghidaaGreatShownP
import Derived.Test.YtellmfimmghidaaGreatRowX
import Derived.Test.YtellmfimmghidaaGreatMulR
import Derived.Test.YtellmfimmghidaaGreatLawO
import Derived.Test.YtellmfimmghidaaGreatTellE
import Derived.Test.YtellmfimmghidaaGreatOprH
import Derived.Test.YtellmfimmghidaaGreatOprD
import Derived.Test.YtellmfimmghidaaGreatCmpT
/- ch 16: <, <=, >, >=. -/
namespace Go.Proofs.YtellmfimmghidaaGreat
set_option linter.unusedSimpArgs false
open Go.RowKit
set_option linter.unusedVariables false
section
variable {w W : World} {Rs : List Res} {h : Nat} {H : HeapM}
end
end Go.Proofs.YtellmfimmghidaaGreat
/- ch 16: Cmp, op by op; order plainly. -/
namespace Go.Proofs.YtellmfimmghidaaGreat
set_option linter.unusedSimpArgs false
open Go.RowKit
set_option linter.unusedVariables false
section
variable {w W : World} {Rs : List Res} {h : Nat} {H : HeapM}
end
def vI (n : Int) (h : (Lit.int .i64 n).wf = true) : V := ⟨2, n, ⟨#[]⟩, by decide, h, by decide⟩
def vS (s : ByteArray) (h : s.size ≤ maxLen) : V := ⟨3, 0, s, by decide, by decide, h⟩
end Go.Proofs.YtellmfimmghidaaGreat
/- ch 16: str, lost, Index. -/
namespace Go.Proofs.YtellmfimmghidaaGreat
set_option linter.unusedSimpArgs false
open Go.RowKit
set_option linter.unusedVariables false
section
variable {w W : World} {Rs : List Res} {h : Nat} {H : HeapM}
end
end Go.Proofs.YtellmfimmghidaaGreat
/- ch 16: what multiply, Neg and Bin refuse; Truth. -/
namespace Go.Proofs.YtellmfimmghidaaGreat
set_option linter.unusedSimpArgs false
open Go.RowKit
set_option linter.unusedVariables false
section
variable {w W : World} {Rs : List Res} {h : Nat} {H : HeapM}
end
end Go.Proofs.YtellmfimmghidaaGreat
/- ch 16: values that are no objects: told, and the same. -/
namespace Go.Proofs.YtellmfimmghidaaGreat
set_option linter.unusedSimpArgs false
open Go.RowKit
set_option linter.unusedVariables false
theorem HeapM.kind_no (H : HeapM) (v : V) (h : ¬ v.kind = 4) : H.kind v = 0 := Classical.byContradiction fun e => h (H.kind_ref v e)
theorem HeapM.rowB_no (H : HeapM) (v : V) (h : ¬ v.kind = 4) : H.rowB v = false := by unfold HeapM.rowB; rw [H.kind_no v h]; rfl
theorem HeapM.wholeB_no (H : HeapM) (v : V) (h : ¬ v.kind = 4) : H.wholeB v = false := by unfold HeapM.wholeB; rw [H.rowB_no v h, H.kind_no v h]; rfl
theorem HeapM.items_no (H : HeapM) (v : V) (h : ¬ v.kind = 4) : H.items v = [] := by
  unfold HeapM.items HeapM.of; rw [if_neg h]; rfl
theorem HeapM.pairs_no (H : HeapM) (v : V) (h : ¬ v.kind = 4) : H.pairs v = [] := by
  unfold HeapM.pairs HeapM.of; rw [if_neg h]; rfl
section
variable {w W : World} {Rs : List Res} {h : Nat} {H : HeapM}
theorem repr_one {N : Nat} (G : H.Good N) (hN : N ≤ 4000000) (S : Sep w Rs W) (i : Nat) (hi : Rs[i]? = some (heapR h H)) (v : V) (hk : v.kind = 0 ∨ v.kind = 1 ∨ v.kind = 2 ∨ v.kind = 3) (hs : v.s.size ≤ 100000) (r : Value) (hr : r = reprV (H.reprM v)) :
    Calls Tryz.prog 25 #[.pointer (some ⟨h, 0, none⟩), .agg #[.int .i64 v.kind, .int .i64 v.n, .string v.s]] W fun e W' => e = .returned r ∧ Sep w Rs W' := by
  subst hr
  have h4 : ¬ v.kind = 4 := by omega
  exact repr_ok G hN (plainAt (P := fun x => x = v) (fun x hx _ => by subst hx; exact ⟨hk, hs⟩)) (fun x y hx hy => by subst hx; rw [H.items_no x h4] at hy; cases hy) (fun x p hx hp => by subst hx; rw [H.pairs_no x h4] at hp; cases hp) S i hi v rfl
end
theorem HeapM.repr_fits (H : HeapM) (v : V) (h4 : ¬ v.kind = 4) (hl : (H.plainL v).length ≤ 65536) : reprV (H.reprM v) = .tuple #[.string ⟨(H.plainL v).toArray⟩, excZ] := by
  unfold HeapM.reprM HeapM.tellF HeapM.tellT
  simp only [H.wholeB_no v h4, if_true]
  unfold TelM.say
  simp only [List.length_nil, Nat.zero_add]
  rw [if_neg (by omega)]
  rfl
theorem HeapM.repr_long (H : HeapM) (v : V) (h4 : ¬ v.kind = 4) (hl : 65536 < (H.plainL v).length) : reprV (H.reprM v) = .tuple #[.string ⟨#[]⟩, excN memoryError] := by
  unfold HeapM.reprM HeapM.tellF HeapM.tellT
  simp only [H.wholeB_no v h4, if_true]
  unfold TelM.say
  simp only [List.length_nil, Nat.zero_add]
  rw [if_pos hl]
  rfl
end Go.Proofs.YtellmfimmghidaaGreat
namespace Go.Proofs.YtellmfimmghidaaGreat.operateLimits
set_option linter.unusedSimpArgs false
open Go.ChangeShapes Go.WideShapes Go.ChangeAt Go.RowKit
open Go.ChangeMaps (open_string)
set_option linter.unusedVariables false
attribute [local irreducible] wpSeqS wpAnyS wpPreS
theorem zeros_cells (n : Nat) : (madeCells #[.int .i64 0, .int .i64 0, .string ⟨#[]⟩] (n * 3)).toList = (List.replicate n V.zero).flatMap V.cells := by
  unfold madeCells
  rw [Array.toList_map, Array.toList_range]
  induction n with
  | zero => rfl
  | succ n ih =>
    rw [Nat.succ_mul, show n * 3 + 3 = n * 3 + 1 + 1 + 1 from rfl, List.range_succ, List.range_succ, List.range_succ, List.map_append, List.map_append, List.map_append, ih, List.replicate_succ', List.flatMap_append]
    have h0 : (n * 3) % 3 = 0 := by omega
    have h1 : (n * 3 + 1) % 3 = 1 := by omega
    have h2 : (n * 3 + 1 + 1) % 3 = 2 := by omega
    simp [V.cells, V.zero, h0, h1, h2]
theorem bytes_cells (n : Nat) : (madeCells #[.int .u8 0] (n * 1)).toList = (List.replicate n (0 : UInt8)).flatMap byteCell := by
  unfold madeCells
  rw [Array.toList_map, Array.toList_range, Nat.mul_one]
  induction n with
  | zero => rfl
  | succ n ih =>
    rw [List.range_succ, List.map_append, ih, List.replicate_succ', List.flatMap_append]
    have h0 : n % 1 = 0 := by omega
    simp [byteCell, h0]
theorem symMake {P : Program} {o : Oper} {a : Act} {W : World} (x y : Operand) (t : TypeId) (ho : o.op = .makeSlice t x y) (vx vy : Value) (hx : a.eval x = vx) (hy : a.eval y = vy)
    {v' : Value} {w' : World} {R : Value → World → Prop} (hr : (Instr.makeSlice t vx vy).run P W = .ok v' w') (h : R v' w') : symUpon P R ((execOp a.eval o).run P W) := by
  unfold execOp
  simp only [ho, Sem.run_bind, Sem.run_pure, Result.andThen_ok, hx, hy, hr]
  exact h
theorem seesV_nil (W : World) : SeesV W (.slice none 0 0) [] := ⟨none, 0, rfl, Nat.le_refl _, by unfold maxLen; omega, .inl rfl⟩
section
variable {w W : World} {Rs : List Res} {h : Nat} {H : HeapM}
theorem Sep.makeV (S : Sep w Rs W) (n : Nat) (hn : n ≤ 9000) : ∃ g w2, (Instr.makeSlice 22 (.int .i64 (n : Int)) (.int .i64 (n : Int))).run Tryz.prog W = .ok (.slice (some ⟨g, 0, none⟩) n n) w2 ∧ Sep w (valsR (.slice (some ⟨g, 0, none⟩) n n) (List.replicate n V.zero) :: Rs) w2 := by
  obtain ⟨i0, hi, hz0, hz1, hz2⟩ := info_parts info_val
  obtain ⟨w2, e1, e2, e3⟩ := run_makeSlice_full (P := Tryz.prog) (w := W) 0 22 29 i0 _ 3 Tryz.underlying22 hi hz0 hz1 .i64 .i64 n (by omega) (by rw [hz2]; omega) (by unfold maxLen; omega) (Nat.zero_le _)
  refine ⟨_, w2, e1, S.addRow ?_ ?_ ?_⟩
  · exact (Below.refl _ _).grown e3 (Nat.le_refl _) (fun k hk => by cases hk)
  · unfold slIs
    rw [List.length_replicate, ← zeros_cells]
    exact e2
  · intro g hg; simp [Value.ownBlock] at hg; omega
theorem Sep.makeB (S : Sep w Rs W) (n : Nat) (hn : n ≤ 90000) : ∃ g w2, (Instr.makeSlice 47 (.int .i64 (n : Int)) (.int .i64 (n : Int))).run Tryz.prog W = .ok (.slice (some ⟨g, 0, none⟩) n n) w2 ∧ Sep w (bytesR (.slice (some ⟨g, 0, none⟩) n n) (List.replicate n 0) :: Rs) w2 := by
  obtain ⟨i0, hi, hz0, hz1, hz2⟩ := info_parts infoU8
  obtain ⟨w2, e1, e2, e3⟩ := run_makeSlice_full (P := Tryz.prog) (w := W) 0 47 5 i0 _ 1 Tryz.underlying47 hi hz0 hz1 .i64 .i64 n (by omega) (by rw [hz2]; omega) (by unfold maxLen; omega) (Nat.zero_le _)
  refine ⟨_, w2, e1, S.addRow ?_ ?_ ?_⟩
  · exact (Below.refl _ _).grown e3 (Nat.le_refl _) (fun k hk => by cases hk)
  · unfold slIs
    rw [List.length_replicate, ← bytes_cells]
    exact e2
  · intro g hg; simp [Value.ownBlock] at hg; omega
theorem mul_empty (S : Sep w Rs W) (i : Nat) (hi : Rs[i]? = some (heapR h H)) {N : Nat} (G : H.Good N) (hN : N + 1 ≤ 4000000) (r m : V) (hr : H.rowB r = true) (hm : m.kind = 2) (he : H.items r = []) : Calls Tryz.prog 23 #[.pointer (some ⟨h, 0, none⟩), .string ⟨#[42]⟩, .agg #[.int .i64 r.kind, .int .i64 r.n, .string r.s], .agg #[.int .i64 m.kind, .int .i64 m.n, .string m.s]] W fun e W' => e = .returned (.tuple #[.agg #[.int .i64 4, .int .i64 (H.last + 1), .string ⟨#[]⟩], excZ]) ∧ Sep w (Rs.set i (heapR h (H.add (rowO (H.kind r) (H.okKind r) [])))) W' := by
  have hh := bin_mul_row S i hi G hN r m hr hm (by rw [he]; simp)
  rw [he, repl_nil] at hh
  exact hh
theorem bin_add_rows {w W : World} {Rs : List Res} {h : Nat} {H : HeapM} (S : Sep w Rs W) (i : Nat) (hi : Rs[i]? = some (heapR h H)) {N : Nat} (G : H.Good N) (hN : N + 1 ≤ 4000000) (x y : V) (hx : H.rowB x = true) (hk : H.kind x = H.kind y) (r : List V) (hr : H.items x ++ H.items y = r) (hl : r.length ≤ 4096) : Calls Tryz.prog 23 #[.pointer (some ⟨h, 0, none⟩), .string ⟨#[43]⟩, .agg #[.int .i64 x.kind, .int .i64 x.n, .string x.s], .agg #[.int .i64 y.kind, .int .i64 y.n, .string y.s]] W fun e W' => e = .returned (.tuple #[.agg #[.int .i64 4, .int .i64 (H.last + 1), .string ⟨#[]⟩], excZ]) ∧ Sep w (Rs.set i (heapR h (H.add (rowO (H.kind x) (H.okKind x) r)))) W' := by
  subst hr
  exact bin_add_row S i hi G hN x y hx hk (by rw [← List.length_append]; exact hl)
theorem repl_zeros (c k : Nat) : repl c (List.replicate k V.zero) = List.replicate (c * k) V.zero := by
  induction c with
  | zero => simp [repl]
  | succ c ih => rw [repl, ih, List.replicate_append_replicate, Nat.succ_mul]
theorem mul_zeros (S : Sep w Rs W) (i : Nat) (hi : Rs[i]? = some (heapR h H)) {N : Nat} (G : H.Good N) (hN : N + 1 ≤ 4000000) (r m : V) (hr : H.rowB r = true) (hm : m.kind = 2) {k M : Nat} (he : H.items r = List.replicate k V.zero) (hM : m.n.toNat * k = M) (hl : M ≤ 4096) : Calls Tryz.prog 23 #[.pointer (some ⟨h, 0, none⟩), .string ⟨#[42]⟩, .agg #[.int .i64 r.kind, .int .i64 r.n, .string r.s], .agg #[.int .i64 m.kind, .int .i64 m.n, .string m.s]] W fun e W' => e = .returned (.tuple #[.agg #[.int .i64 4, .int .i64 (H.last + 1), .string ⟨#[]⟩], excZ]) ∧ Sep w (Rs.set i (heapR h (H.add (rowO (H.kind r) (H.okKind r) (List.replicate M V.zero))))) W' := by
  have hh := bin_mul_row S i hi G hN r m hr hm (by rw [he, List.length_replicate, hM]; exact hl)
  rw [he, repl_zeros, hM] at hh
  exact hh
theorem bytes_put (S : Sep w Rs W) (j : Nat) {g n c i : Nat} (hj : Rs[j]? = some (bytesR (.slice (some ⟨g, 0, none⟩) n c) (List.replicate i 97 ++ List.replicate (n - i) 0))) (hi : i < n) : Sep w (Rs.set j (bytesR (.slice (some ⟨g, 0, none⟩) n c) (List.replicate (i + 1) 97 ++ List.replicate (n - (i + 1)) 0))) (W.setCell ⟨g, i, none⟩ (.int .u8 97)) ∧ W.cell? ⟨g, i, none⟩ = some (.int .u8 0) ∧ W.frozen? ⟨g, i, none⟩ = false := by
  have hlen : (List.replicate i (97 : UInt8) ++ List.replicate (n - i) 0).length = n := by simp; omega
  have e0 : List.replicate (n - i) (0 : UInt8) = 0 :: List.replicate (n - (i + 1)) 0 := by rw [show n - i = (n - (i + 1)) + 1 by omega]; rfl
  have hj' := hj
  rw [show n = (List.replicate i (97 : UInt8) ++ List.replicate (n - i) 0).length from hlen.symm] at hj'
  have e1 : (List.replicate i (97 : UInt8) ++ List.replicate (n - i) 0).set i 97 = List.replicate (i + 1) 97 ++ List.replicate (n - (i + 1)) 0 := by
    rw [List.set_append_right _ _ (by simp), e0]
    simp [List.replicate_succ']
  have hk : i < (List.replicate i (97 : UInt8) ++ List.replicate (n - i) 0).length := by omega
  have h1 := S.putRow (f := byteCell) (m := 1) (e := 5) (l := List.replicate i (97 : UInt8) ++ List.replicate (n - i) 0) (g := g) (c := c) j (by rw [hlen]; exact hj) (fun _ => rfl) (k := i) hk (97 : UInt8)
  rw [hlen, e1] at h1
  have hc := (S.row j hj).cell (f := byteCell) (m := 1) (fun _ => rfl) rfl (i := i) (a := (0 : UInt8)) (by rw [e0, List.getElem?_append_right (by simp)]; simp) (j := 0) (u := .int .u8 0) rfl
  refine ⟨?_, ?_, (S.row j hj).frozen rfl i⟩
  · have e2 : W.setCells g (i * 1) (byteCell 97) = W.setCell ⟨g, i, none⟩ (.int .u8 97) := by
      rw [Nat.mul_one]; rfl
    rw [e2] at h1
    exact h1
  · rw [Nat.mul_one] at hc; exact hc
theorem told (H : HeapM) (n : Nat) (hs : (⟨(List.replicate n (97 : UInt8)).toArray⟩ : ByteArray).size ≤ maxLen) : (H.plainL (vS ⟨(List.replicate n (97 : UInt8)).toArray⟩ hs)).length = n + 2 := by
  have e : H.plainL (vS ⟨(List.replicate n (97 : UInt8)).toArray⟩ hs) = quoteL ((List.replicate n (97 : UInt8)).toArray.toList) := rfl
  rw [e]
  unfold quoteL
  have hq : quoteC 97 = [97] := by decide
  have flat : ∀ k : Nat, (List.replicate k (97 : UInt8)).flatMap quoteC = List.replicate k 97 := fun k => by
    induction k with
    | zero => rfl
    | succ k ih => rw [List.replicate_succ, List.flatMap_cons, hq, ih]; rfl
  have this := flat n
  simp [this]
end
/-- All of them have 5000 values at most. -/
def HXL (os : List ObjM) : Prop := ∀ o ∈ os, o.vals.length ≤ 5000
theorem HXL.nil : HXL [] := fun o h => by cases h
theorem HXL.snoc {os : List ObjM} (g : HXL os) {k : Int} {hk : okI k} {P : List V} (h : P.length ≤ 5000) : HXL (os ++ [rowO k hk P]) := fun o ho => by
  rcases List.mem_append.1 ho with h1 | h1
  · exact g o h1
  · rw [List.mem_singleton.1 h1]; simpa [rowO, ObjM.vals] using h
theorem HXL.good {os : List ObjM} (g : HXL os) (hl : os.length ≤ 20) : (HX os).Good 200000 := (HX_good g).more (by omega)
def limM (n m : Int) : Nat := (4096 / (1 + (n.tmod 64).toNat) - 3 + (m.tmod 7).toNat) * (1 + (n.tmod 64).toNat)
theorem quo_at {k : Nat} (h1 : 1 ≤ k) (h2 : k ≤ 64) : ∃ q : Nat, (4096 : Int).tdiv (k : Int) = (q : Int) ∧ 64 ≤ q ∧ q ≤ 4096 ∧ q * k ≤ 4096 ∧ q = 4096 / k := by
  refine ⟨4096 / k, rfl, ?_, Nat.div_le_self _ _, Nat.div_mul_le_self _ _, rfl⟩
  exact (Nat.le_div_iff_mul_le (by omega)).2 (by omega)
set_option maxRecDepth 100000 in
set_option maxHeartbeats 12800000 in
theorem walk_fits (w : World) (n m : Int) (hn : (Lit.int .u8 n).wf = true) (hm : (Lit.int .u8 m).wf = true) (hfit : limM n m ≤ 4096) :
    Calls Tryz.prog 5 #[.int .u8 n, .int .u8 m] w fun e W' => e = .returned (.bool true) ∧ Below w.heap.size w W' := by
  obtain ⟨r6, hr6, hr6b⟩ := rest_of (byte_range hn).1 (show 0 < 64 by decide)
  obtain ⟨r7, hr7, hr7b⟩ := rest_of (byte_range hm).1 (show 0 < 7 by decide)
  obtain ⟨r31, hr31, hr31b⟩ := rest_of (byte_range hm).1 (show 0 < 31 by decide)
  replace hr6 : n.tmod 64 = (r6 : Int) := hr6
  replace hr7 : m.tmod 7 = (r7 : Int) := hr7
  replace hr31 : m.tmod 31 = (r31 : Int) := hr31
  obtain ⟨k, hk⟩ : ∃ k, k = 1 + r6 := ⟨_, rfl⟩
  obtain ⟨q, hq, hq1, hq2, hq3, hq4⟩ := quo_at (k := k) (by omega) (by omega)
  obtain ⟨t, ht⟩ : ∃ t, t = q - 3 + r7 := ⟨_, rfl⟩
  obtain ⟨M, hM⟩ : ∃ M, t * k = M := ⟨_, rfl⟩
  have hf : M ≤ 4096 := by
    have e : limM n m = M := by
      unfold limM
      rw [hr6, hr7, Int.toNat_natCast, Int.toNat_natCast, ← hk, ← hq4, ← ht, hM]
    rw [← e]; exact hfit
  clear hfit hq4
  have hMb : M ≤ 4600 := by
    have h1 : t * k ≤ (q + 7) * k := Nat.mul_le_mul_right _ (by omega)
    rw [Nat.add_mul] at h1; omega
  have HK := Lib.hid (show 1 ≤ k ∧ k ≤ 64 by omega)
  have HTQ := Lib.hid (show 61 ≤ t ∧ t ≤ 5000 by omega)
  have HM := Lib.hid hM
  have HMB := Lib.hid hMb
  obtain ⟨L, hL⟩ : ∃ L, L = 65519 + r31 := ⟨_, rfl⟩
  have HL := Lib.hid (show 65519 ≤ L ∧ L ≤ 65549 by omega)
  have hw5 : IntKind.i64.wrap (1 + (r6 : Int)) = (k : Int) := by rw [hk]; exact (IntWalk.i64_in _ (by omega)).trans (by omega)
  have hw6 : IntKind.i64.wrap (r6 : Int) = (r6 : Int) := IntWalk.i64_in _ (by omega)
  have H5 := Lib.hid (And.intro hr6 (And.intro hw6 hw5))
  have hw7 : IntKind.i64.wrap (r7 : Int) = (r7 : Int) := IntWalk.i64_in _ (by omega)
  have hwq : IntKind.i64.wrap (q : Int) = (q : Int) := IntWalk.i64_in _ (by omega)
  have hwt : IntKind.i64.wrap ((q : Int) - 3) = (q : Int) - 3 := IntWalk.i64_in _ (by omega)
  have hwt2 : IntKind.i64.wrap ((q : Int) - 3 + (r7 : Int)) = (t : Int) := by rw [ht]; exact (IntWalk.i64_in _ (by omega)).trans (by omega)
  have H7 := Lib.hid (And.intro hr7 (And.intro hw7 (And.intro hq (And.intro hwq (And.intro hwt hwt2)))))
  have hw31 : IntKind.i64.wrap (r31 : Int) = (r31 : Int) := IntWalk.i64_in _ (by omega)
  have hw32 : IntKind.i64.wrap (65521 + (r31 : Int)) = ((L + 2 : Nat) : Int) := by rw [hL]; exact (IntWalk.i64_in _ (by omega)).trans (by omega)
  have H19 := Lib.hid (And.intro hr31 (And.intro hw31 hw32))
  clear hr6 hr6b hr7 hr7b hr31 hr31b hk hq hq1 hq2 hq3 ht hM hMb hL hw5 hw6 hw7 hwq hwt hwt2 hw31 hw32 hn hm
  have S := Sep.start (Below.refl w.heap.size w)
  have M0 := Lib.hid (shown_ok S)
  clear S
  go_enter Tryz.func5, Tryz.ntmps5
  go_wp2_with fail
  refine M0.out.mono ?_
  rintro e w1 ⟨rfl, S⟩
  clear M0
  have MN := Lib.hid S.new
  clear S
  go_wp2_with fail
  refine MN.out.mono ?_
  rintro e w2 ⟨h, rfl, S, -⟩
  clear MN
  replace S : Sep w (heapR h (HX []) :: []) _ := S
  have HG0 := Lib.hid HXL.nil
  obtain ⟨q1, q2, q3⟩ := H5.out
  refine named (heapR h (HX []) :: [] : List Res) fun b5_2 hb5_2 => ?_
  have Hb5_2 := Lib.hid hb5_2
  have Kb5_2 : Hid (∀ W (Q : List Res), Sep w (Q ++ b5_2) W → True) := Lib.hid fun W Q T => by
    rw [hb5_2] at T
    trivial
  replace S := Lib.hid S
  clear hb5_2
  go_upto_region 5 with fail
  have S1 : Sep w ([] ++ b5_2) (w2) := by rw [Hb5_2.out]; exact S.out
  clear S
  refine regionL (E := []) (base := b5_2) S1 ?_
  clear S1
  iterate 5 (refine quietL ?_; simp only [Act.put, pa]; try dsimp only [List.set])
  refine doneL (h := fun w4 S => ?_)
  replace S : Sep w (heapR h (HX []) :: []) w4 := by rw [Hb5_2.out] at S; exact S
  clear Hb5_2 Kb5_2
  clear q1 q2 q3
  have HG1 : Hid (HXL [rowO 1 (by decide) (List.replicate k V.zero)]) := Lib.hid (HG0.out.snoc (by rw [List.length_replicate]; have := HK.out; omega))
  replace S : Sep w (heapR h (HX []) :: []) (w4) := by
    refine (show Sep w ([heapR h (HX [])] ++ []) _ from S).perm ?_
    exact List.Perm.append_right [] (perm_of (l := [heapR h (HX [])]) [0] (by show (List.range' 0 1).Perm [0]; decide) (by rfl))
  refine named ([] : List Res) fun b6_4 hb6_4 => ?_
  have Hb6_4 := Lib.hid hb6_4
  have Kb6_4 : Hid (∀ W (Q : List Res), Sep w (Q ++ b6_4) W → True) := Lib.hid fun W Q T => by
    rw [hb6_4] at T
    trivial
  replace S := Lib.hid S
  clear hb6_4
  go_upto_region 6 with fail
  have S1 : Sep w ([heapR h (HX [])] ++ b6_4) (w4) := by rw [Hb6_4.out]; exact S.out
  clear S
  refine regionL (E := [emptyR, emptyR, heapR h (HX [])]) (base := b6_4) (Sep.putE (Sep.putE S1)) ?_
  clear S1
  iterate 2 (refine quietL ?_; simp only [Act.put, pa]; try dsimp only [List.set])
  refine stepL (fun v E1 => ∃ (q_6_1 : Nat), v = .slice (some ⟨q_6_1, 0, none⟩) k k ∧ E1 = [emptyR, valsR (.slice (some ⟨q_6_1, 0, none⟩) k k) (List.replicate k V.zero), heapR h (HX [])]) (h1 := fun Wx hSw => by (obtain ⟨g, w2, hr, S2⟩ := Sep.makeV hSw k (by have := HK.out; omega); exact symMake _ _ _ rfl _ _ rfl rfl hr ⟨_, ⟨_, rfl, rfl⟩, S2.into 1 rfl⟩)) (h2 := fun v E1 hvE => ?_)
  obtain ⟨q_6_1, rfl, rfl⟩ := hvE
  simp only [Act.put, pa]; try dsimp only [List.set]
  refine detL (.agg #[.int .i64 4, .int .i64 1, .string ⟨#[]⟩]) [emptyR, valsR (.slice (some ⟨q_6_1, 0, none⟩) k k) (List.replicate k V.zero), heapR h (HX [rowO 1 (by decide) (List.replicate k V.zero)])] (h1 := fun Wx hSw => by (go_simp; refine symCall ?_; have hh := hSw.make 2 rfl (HG0.out.good (by simp)) (by decide) (rowO 1 (by decide) (List.replicate k V.zero)) (.slice (some ⟨q_6_1, 0, none⟩) k k) (hSw.seesV 1 rfl) (by show (List.replicate k V.zero).length ≤ 4194304; rw [List.length_replicate]; have := HK.out; omega) rfl (show (1 : Int) ≤ 1 by decide) (show (1 : Int) ≤ 12 by decide); exact hh)) (h2 := ?_)
  simp only [Act.put, pa]; try dsimp only [List.set]
  refine allocL 0 rfl (fun q => .pointer (some ⟨q, 0, none⟩)) (.cells #[.int .i64 0, .int .i64 0, .string ⟨#[]⟩] 29) (h1 := fun Wx => by go_simp) (h2 := fun qv3 => ?_)
  simp only [Act.put, pa]; try dsimp only [List.set]
  try simp only [List.set_cons_zero, List.set_cons_succ]
  refine detL undef [boxW qv3 4 1 ⟨#[]⟩, valsR (.slice (some ⟨q_6_1, 0, none⟩) k k) (List.replicate k V.zero), heapR h (HX [rowO 1 (by decide) (List.replicate k V.zero)])] (h1 := fun Wx hSw => by (have hz := hSw.box (b := qv3) (o := objZ) 0 rfl; refine useZ3 hz fun z0 z1 z2 y0 y1 y2 => ?_; go_simp; exact ⟨rfl, hSw.set3 0 rfl (.int .i64 4) (.int .i64 1) (.string ⟨#[]⟩)⟩)) (h2 := ?_)
  simp only [Act.put, pa]; try dsimp only [List.set]
  refine doneL (h := fun w6 S => ?_)
  replace S : Sep w (boxW qv3 4 1 ⟨#[]⟩ :: valsR (.slice (some ⟨q_6_1, 0, none⟩) k k) (List.replicate k V.zero) :: heapR h (HX [rowO 1 (by decide) (List.replicate k V.zero)]) :: []) w6 := by rw [Hb6_4.out] at S; exact S
  clear Hb6_4 Kb6_4
  obtain ⟨q1, q2, q3, q4, q5, q6⟩ := H7.out
  have q7 : ¬ (k : Int) = 0 := by have := HK.out; omega
  have q8 : ((k : Int) == 0) = false := by simpa using q7
  have q9 : ¬ k = 0 := by omega
  refine named (boxW qv3 4 1 ⟨#[]⟩ :: valsR (.slice (some ⟨q_6_1, 0, none⟩) k k) (List.replicate k V.zero) :: heapR h (HX [rowO 1 (by decide) (List.replicate k V.zero)]) :: [] : List Res) fun b7_6 hb7_6 => ?_
  have Hb7_6 := Lib.hid hb7_6
  have Kb7_6 : Hid (∀ W (Q : List Res), Sep w (Q ++ b7_6) W → True) := Lib.hid fun W Q T => by
    rw [hb7_6] at T
    trivial
  replace S := Lib.hid S
  clear hb7_6
  go_upto_region 7 with fail
  have S1 : Sep w ([] ++ b7_6) (w6) := by rw [Hb7_6.out]; exact S.out
  clear S
  refine regionL (E := []) (base := b7_6) S1 ?_
  clear S1
  iterate 8 (refine quietL ?_; simp only [Act.put, pa]; try dsimp only [List.set])
  refine doneL (h := fun w8 S => ?_)
  replace S : Sep w (boxW qv3 4 1 ⟨#[]⟩ :: valsR (.slice (some ⟨q_6_1, 0, none⟩) k k) (List.replicate k V.zero) :: heapR h (HX [rowO 1 (by decide) (List.replicate k V.zero)]) :: []) w8 := by rw [Hb7_6.out] at S; exact S
  clear Hb7_6 Kb7_6
  clear q1 q2 q3 q4 q5 q6 q7 q8 q9
  have HTI : Hid (okI (t : Int)) := Lib.hid (okI_of (by have := HTQ.out; omega))
  have HF := Lib.hid hf
  clear hf
  have HG2 : Hid (HXL [rowO 1 (by decide) (List.replicate k V.zero), rowO 1 (by decide) (List.replicate M V.zero)]) := Lib.hid (HG1.out.snoc (by rw [List.length_replicate]; have := HMB.out; omega))
  replace S : Sep w (heapR h (HX [rowO 1 (by decide) (List.replicate k V.zero)]) :: boxW qv3 4 1 ⟨#[]⟩ :: valsR (.slice (some ⟨q_6_1, 0, none⟩) k k) (List.replicate k V.zero) :: []) (w8) := by
    refine (show Sep w ([boxW qv3 4 1 ⟨#[]⟩, valsR (.slice (some ⟨q_6_1, 0, none⟩) k k) (List.replicate k V.zero), heapR h (HX [rowO 1 (by decide) (List.replicate k V.zero)])] ++ []) _ from S).perm ?_
    exact List.Perm.append_right [] (perm_of (l := [boxW qv3 4 1 ⟨#[]⟩, valsR (.slice (some ⟨q_6_1, 0, none⟩) k k) (List.replicate k V.zero), heapR h (HX [rowO 1 (by decide) (List.replicate k V.zero)])]) [2, 0, 1] (by show (List.range' 0 3).Perm [2, 0, 1]; decide) (by rfl))
  refine named (boxW qv3 4 1 ⟨#[]⟩ :: valsR (.slice (some ⟨q_6_1, 0, none⟩) k k) (List.replicate k V.zero) :: [] : List Res) fun b8_8 hb8_8 => ?_
  have Hb8_8 := Lib.hid hb8_8
  have Kb8_8 : Hid (∀ W (Q : List Res), Sep w (Q ++ b8_8) W → True) := Lib.hid fun W Q T => by
    rw [hb8_8] at T
    trivial
  have Cb8_8_0 : Hid (∀ W (Q : List Res), Sep w (Q ++ b8_8) W → W.cell? ⟨qv3, 0, none⟩ = some (.int .i64 4) ∧ W.cell? ⟨qv3, 1, none⟩ = some (.int .i64 1) ∧ W.cell? ⟨qv3, 2, none⟩ = some (.string ⟨#[]⟩)) := Lib.hid fun W Q T => by
    rw [hb8_8] at T
    have i0 := T.box (b := qv3) (o := objW 4 1 ⟨#[]⟩) (Q.length + 0) (by rw [List.getElem?_append_right (by omega), Nat.add_sub_cancel_left]; rfl)
    exact ⟨cellAt i0 0 rfl, cellAt i0 1 rfl, cellAt i0 2 rfl⟩
  have K8_3 : Hid (∀ W (Q : List Res), Sep w (Q ++ b8_8) W → Calls Tryz.prog 16 #[.int .i64 t] W fun e W' => e = .returned (.agg #[.int .i64 2, .int .i64 t, .string ⟨#[]⟩]) ∧ Sep w (Q ++ b8_8) W') := Lib.hid fun W Q T => by
    exact (lnum_ok W t).mono fun e W' ⟨e1, e2⟩ => ⟨e1, T.later e2⟩
  replace S := Lib.hid S
  clear hb8_8
  go_upto_region 8 with fail
  go_cut [10, 11] (fun s10 s11 wx => ∃ qq0_8 qq1_8, s10 = .pointer (some ⟨qq0_8, 0, none⟩) ∧ s11 = .pointer (some ⟨qq1_8, 0, none⟩) ∧ Sep w ([boxW qq0_8 4 2 ⟨#[]⟩, boxE qq1_8, heapR h (HX [rowO 1 (by decide) (List.replicate k V.zero), rowO 1 (by decide) (List.replicate M V.zero)])] ++ b8_8) wx)
  case first =>
    have S1 : Sep w ([heapR h (HX [rowO 1 (by decide) (List.replicate k V.zero)])] ++ b8_8) (w8) := by rw [Hb8_8.out]; exact S.out
    clear S
    as_aux_lemma =>
      refine regionP 4 8 (E := [emptyR, emptyR, heapR h (HX [rowO 1 (by decide) (List.replicate k V.zero)])]) (base := b8_8) (Sep.putE (Sep.putE S1)) ?_
      clear S1
      refine quietP ?_
      simp only [Act.put, pa]; try dsimp only [List.set]
      refine quietP (hy := fun E Wx hSw => by ((refine and3 (Cb8_8_0.out _ _ hSw) fun u0 u1 u2 => ?_); go_simp; exact ⟨rfl, hSw⟩)) (h := ?_)
      simp only [Act.put, pa]; try dsimp only [List.set]
      refine quietP ?_
      simp only [Act.put, pa]; try dsimp only [List.set]
      refine quietP (hy := fun E Wx hSw => by (go_simp; exact symCall (K8_3.out _ _ hSw))) (h := ?_)
      simp only [Act.put, pa]; try dsimp only [List.set]
      refine endP ?_
      refine readyS [4, 8, 9] ?_
      refine detS (.tuple #[.agg #[.int .i64 4, .int .i64 2, .string ⟨#[]⟩], excZ]) [emptyR, emptyR, heapR h (HX [rowO 1 (by decide) (List.replicate k V.zero), rowO 1 (by decide) (List.replicate M V.zero)])] (h1 := fun Wx hSw => by (go_simp; refine symCall ?_; exact mul_zeros hSw 2 rfl (HG1.out.good (by simp)) (by decide) (vX 1 (by decide)) (vI t HTI.out) rfl rfl (k := k) (M := M) rfl (by show (t : Int).toNat * k = M; rw [Int.toNat_natCast]; exact HM.out) HF.out)) (h2 := ?_) (hs := ?_)
      · simp only [Act.put, pa]; try dsimp only [List.set]
        refine quietS 5 ?_
        simp only [Act.put, pa]; try dsimp only [List.set]
        refine quietS 6 ?_
        simp only [Act.put, pa]; try dsimp only [List.set]
        refine quietS 7 ?_
        simp only [Act.put, pa]; try dsimp only [List.set]
        refine readyS [8, 9] ?_
        refine allocS 0 rfl (fun q => .pointer (some ⟨q, 0, none⟩)) (.cells #[.int .i64 0, .int .i64 0, .string ⟨#[]⟩] 29) (h1 := fun Wx => by go_simp) (h2 := fun qa82 => ?_) (hs := ?_)
        · simp only [Act.put, pa]; try dsimp only [List.set]
          try simp only [List.set_cons_zero, List.set_cons_succ]
          refine readyS [9] ?_
          refine allocS 1 rfl (fun q => .pointer (some ⟨q, 0, none⟩)) (.cells #[.string ⟨#[]⟩, .int .i64 0, .int .i64 0, .string ⟨#[]⟩, .bool false] 38) (h1 := fun Wx => by go_simp) (h2 := fun qe83 => ?_) (hs := nilS)
          simp only [Act.put, pa]; try dsimp only [List.set]
          try simp only [List.set_cons_zero, List.set_cons_succ]
          refine readyS [10] ?_
          refine detS undef [boxW qa82 4 2 ⟨#[]⟩, boxE qe83, heapR h (HX [rowO 1 (by decide) (List.replicate k V.zero), rowO 1 (by decide) (List.replicate M V.zero)])] (h1 := fun Wx hSw => by (have hz := hSw.box (b := qa82) (o := objZ) 0 rfl; refine useZ3 hz fun z0 z1 z2 y0 y1 y2 => ?_; go_simp; exact ⟨rfl, hSw.set3 0 rfl (.int .i64 4) (.int .i64 2) (.string ⟨#[]⟩)⟩)) (h2 := ?_) (hs := nilS)
          simp only [Act.put, pa]; try dsimp only [List.set]
          refine readyS [11] ?_
          refine detS undef [boxW qa82 4 2 ⟨#[]⟩, boxE qe83, heapR h (HX [rowO 1 (by decide) (List.replicate k V.zero), rowO 1 (by decide) (List.replicate M V.zero)])] (h1 := fun Wx hSw => by (have hz := hSw.box (b := qe83) (o := objE) 1 rfl; refine useZ5 hz fun z0 z1 z2 z3 z4 y0 y1 y2 y3 y4 => ?_; go_simp; exact ⟨rfl, hSw.set5 1 rfl (.string ⟨#[]⟩) (.int .i64 0) (.int .i64 0) (.string ⟨#[]⟩) (.bool false)⟩)) (h2 := ?_) (hs := nilS)
          simp only [Act.put, pa]; try dsimp only [List.set]
          refine doneS (h := fun w10 S => ?_)
          go_wp2_with fail
          as_aux_lemma => (go_meet; exact ⟨_, _, rfl, rfl, S⟩)
        refine allocS 1 rfl (fun q => .pointer (some ⟨q, 0, none⟩)) (.cells #[.string ⟨#[]⟩, .int .i64 0, .int .i64 0, .string ⟨#[]⟩, .bool false] 38) (h1 := fun Wx => by go_simp) (h2 := fun qe86 => ?_) (hs := ?_)
        · simp only [Act.put, pa]; try dsimp only [List.set]
          try simp only [List.set_cons_zero, List.set_cons_succ]
          refine readyS [8] ?_
          refine allocS 0 rfl (fun q => .pointer (some ⟨q, 0, none⟩)) (.cells #[.int .i64 0, .int .i64 0, .string ⟨#[]⟩] 29) (h1 := fun Wx => by go_simp) (h2 := fun qa87 => ?_) (hs := nilS)
          simp only [Act.put, pa]; try dsimp only [List.set]
          try simp only [List.set_cons_zero, List.set_cons_succ]
          refine readyS [10] ?_
          refine detS undef [boxW qa87 4 2 ⟨#[]⟩, boxE qe86, heapR h (HX [rowO 1 (by decide) (List.replicate k V.zero), rowO 1 (by decide) (List.replicate M V.zero)])] (h1 := fun Wx hSw => by (have hz := hSw.box (b := qa87) (o := objZ) 0 rfl; refine useZ3 hz fun z0 z1 z2 y0 y1 y2 => ?_; go_simp; exact ⟨rfl, hSw.set3 0 rfl (.int .i64 4) (.int .i64 2) (.string ⟨#[]⟩)⟩)) (h2 := ?_) (hs := nilS)
          simp only [Act.put, pa]; try dsimp only [List.set]
          refine readyS [11] ?_
          refine detS undef [boxW qa87 4 2 ⟨#[]⟩, boxE qe86, heapR h (HX [rowO 1 (by decide) (List.replicate k V.zero), rowO 1 (by decide) (List.replicate M V.zero)])] (h1 := fun Wx hSw => by (have hz := hSw.box (b := qe86) (o := objE) 1 rfl; refine useZ5 hz fun z0 z1 z2 z3 z4 y0 y1 y2 y3 y4 => ?_; go_simp; exact ⟨rfl, hSw.set5 1 rfl (.string ⟨#[]⟩) (.int .i64 0) (.int .i64 0) (.string ⟨#[]⟩) (.bool false)⟩)) (h2 := ?_) (hs := nilS)
          simp only [Act.put, pa]; try dsimp only [List.set]
          refine doneS (h := fun w10 S => ?_)
          go_wp2_with fail
          as_aux_lemma => (go_meet; exact ⟨_, _, rfl, rfl, S⟩)
        exact nilS
      refine allocS 0 rfl (fun q => .pointer (some ⟨q, 0, none⟩)) (.cells #[.int .i64 0, .int .i64 0, .string ⟨#[]⟩] 29) (h1 := fun Wx => by go_simp) (h2 := fun qa810 => ?_) (hs := ?_)
      · simp only [Act.put, pa]; try dsimp only [List.set]
        try simp only [List.set_cons_zero, List.set_cons_succ]
        refine readyS [4, 9] ?_
        refine detS (.tuple #[.agg #[.int .i64 4, .int .i64 2, .string ⟨#[]⟩], excZ]) [boxZ qa810, emptyR, heapR h (HX [rowO 1 (by decide) (List.replicate k V.zero), rowO 1 (by decide) (List.replicate M V.zero)])] (h1 := fun Wx hSw => by (go_simp; refine symCall ?_; exact mul_zeros hSw 2 rfl (HG1.out.good (by simp)) (by decide) (vX 1 (by decide)) (vI t HTI.out) rfl rfl (k := k) (M := M) rfl (by show (t : Int).toNat * k = M; rw [Int.toNat_natCast]; exact HM.out) HF.out)) (h2 := ?_) (hs := ?_)
        · simp only [Act.put, pa]; try dsimp only [List.set]
          refine quietS 5 ?_
          simp only [Act.put, pa]; try dsimp only [List.set]
          refine quietS 6 ?_
          simp only [Act.put, pa]; try dsimp only [List.set]
          refine quietS 7 ?_
          simp only [Act.put, pa]; try dsimp only [List.set]
          refine readyS [9] ?_
          refine allocS 1 rfl (fun q => .pointer (some ⟨q, 0, none⟩)) (.cells #[.string ⟨#[]⟩, .int .i64 0, .int .i64 0, .string ⟨#[]⟩, .bool false] 38) (h1 := fun Wx => by go_simp) (h2 := fun qe812 => ?_) (hs := nilS)
          simp only [Act.put, pa]; try dsimp only [List.set]
          try simp only [List.set_cons_zero, List.set_cons_succ]
          refine readyS [10] ?_
          refine detS undef [boxW qa810 4 2 ⟨#[]⟩, boxE qe812, heapR h (HX [rowO 1 (by decide) (List.replicate k V.zero), rowO 1 (by decide) (List.replicate M V.zero)])] (h1 := fun Wx hSw => by (have hz := hSw.box (b := qa810) (o := objZ) 0 rfl; refine useZ3 hz fun z0 z1 z2 y0 y1 y2 => ?_; go_simp; exact ⟨rfl, hSw.set3 0 rfl (.int .i64 4) (.int .i64 2) (.string ⟨#[]⟩)⟩)) (h2 := ?_) (hs := nilS)
          simp only [Act.put, pa]; try dsimp only [List.set]
          refine readyS [11] ?_
          refine detS undef [boxW qa810 4 2 ⟨#[]⟩, boxE qe812, heapR h (HX [rowO 1 (by decide) (List.replicate k V.zero), rowO 1 (by decide) (List.replicate M V.zero)])] (h1 := fun Wx hSw => by (have hz := hSw.box (b := qe812) (o := objE) 1 rfl; refine useZ5 hz fun z0 z1 z2 z3 z4 y0 y1 y2 y3 y4 => ?_; go_simp; exact ⟨rfl, hSw.set5 1 rfl (.string ⟨#[]⟩) (.int .i64 0) (.int .i64 0) (.string ⟨#[]⟩) (.bool false)⟩)) (h2 := ?_) (hs := nilS)
          simp only [Act.put, pa]; try dsimp only [List.set]
          refine doneS (h := fun w10 S => ?_)
          go_wp2_with fail
          as_aux_lemma => (go_meet; exact ⟨_, _, rfl, rfl, S⟩)
        refine allocS 1 rfl (fun q => .pointer (some ⟨q, 0, none⟩)) (.cells #[.string ⟨#[]⟩, .int .i64 0, .int .i64 0, .string ⟨#[]⟩, .bool false] 38) (h1 := fun Wx => by go_simp) (h2 := fun qe815 => ?_) (hs := ?_)
        · simp only [Act.put, pa]; try dsimp only [List.set]
          try simp only [List.set_cons_zero, List.set_cons_succ]
          refine readyS [4] ?_
          refine detS (.tuple #[.agg #[.int .i64 4, .int .i64 2, .string ⟨#[]⟩], excZ]) [boxZ qa810, boxE qe815, heapR h (HX [rowO 1 (by decide) (List.replicate k V.zero), rowO 1 (by decide) (List.replicate M V.zero)])] (h1 := fun Wx hSw => by (go_simp; refine symCall ?_; exact mul_zeros hSw 2 rfl (HG1.out.good (by simp)) (by decide) (vX 1 (by decide)) (vI t HTI.out) rfl rfl (k := k) (M := M) rfl (by show (t : Int).toNat * k = M; rw [Int.toNat_natCast]; exact HM.out) HF.out)) (h2 := ?_) (hs := nilS)
          simp only [Act.put, pa]; try dsimp only [List.set]
          refine quietS 5 ?_
          simp only [Act.put, pa]; try dsimp only [List.set]
          refine quietS 6 ?_
          simp only [Act.put, pa]; try dsimp only [List.set]
          refine quietS 7 ?_
          simp only [Act.put, pa]; try dsimp only [List.set]
          refine readyS [10] ?_
          refine detS undef [boxW qa810 4 2 ⟨#[]⟩, boxE qe815, heapR h (HX [rowO 1 (by decide) (List.replicate k V.zero), rowO 1 (by decide) (List.replicate M V.zero)])] (h1 := fun Wx hSw => by (have hz := hSw.box (b := qa810) (o := objZ) 0 rfl; refine useZ3 hz fun z0 z1 z2 y0 y1 y2 => ?_; go_simp; exact ⟨rfl, hSw.set3 0 rfl (.int .i64 4) (.int .i64 2) (.string ⟨#[]⟩)⟩)) (h2 := ?_) (hs := nilS)
          simp only [Act.put, pa]; try dsimp only [List.set]
          refine readyS [11] ?_
          refine detS undef [boxW qa810 4 2 ⟨#[]⟩, boxE qe815, heapR h (HX [rowO 1 (by decide) (List.replicate k V.zero), rowO 1 (by decide) (List.replicate M V.zero)])] (h1 := fun Wx hSw => by (have hz := hSw.box (b := qe815) (o := objE) 1 rfl; refine useZ5 hz fun z0 z1 z2 z3 z4 y0 y1 y2 y3 y4 => ?_; go_simp; exact ⟨rfl, hSw.set5 1 rfl (.string ⟨#[]⟩) (.int .i64 0) (.int .i64 0) (.string ⟨#[]⟩) (.bool false)⟩)) (h2 := ?_) (hs := nilS)
          simp only [Act.put, pa]; try dsimp only [List.set]
          refine doneS (h := fun w10 S => ?_)
          go_wp2_with fail
          as_aux_lemma => (go_meet; exact ⟨_, _, rfl, rfl, S⟩)
        exact nilS
      refine allocS 1 rfl (fun q => .pointer (some ⟨q, 0, none⟩)) (.cells #[.string ⟨#[]⟩, .int .i64 0, .int .i64 0, .string ⟨#[]⟩, .bool false] 38) (h1 := fun Wx => by go_simp) (h2 := fun qe819 => ?_) (hs := ?_)
      · simp only [Act.put, pa]; try dsimp only [List.set]
        try simp only [List.set_cons_zero, List.set_cons_succ]
        refine readyS [4, 8] ?_
        refine detS (.tuple #[.agg #[.int .i64 4, .int .i64 2, .string ⟨#[]⟩], excZ]) [emptyR, boxE qe819, heapR h (HX [rowO 1 (by decide) (List.replicate k V.zero), rowO 1 (by decide) (List.replicate M V.zero)])] (h1 := fun Wx hSw => by (go_simp; refine symCall ?_; exact mul_zeros hSw 2 rfl (HG1.out.good (by simp)) (by decide) (vX 1 (by decide)) (vI t HTI.out) rfl rfl (k := k) (M := M) rfl (by show (t : Int).toNat * k = M; rw [Int.toNat_natCast]; exact HM.out) HF.out)) (h2 := ?_) (hs := ?_)
        · simp only [Act.put, pa]; try dsimp only [List.set]
          refine quietS 5 ?_
          simp only [Act.put, pa]; try dsimp only [List.set]
          refine quietS 6 ?_
          simp only [Act.put, pa]; try dsimp only [List.set]
          refine quietS 7 ?_
          simp only [Act.put, pa]; try dsimp only [List.set]
          refine readyS [8] ?_
          refine allocS 0 rfl (fun q => .pointer (some ⟨q, 0, none⟩)) (.cells #[.int .i64 0, .int .i64 0, .string ⟨#[]⟩] 29) (h1 := fun Wx => by go_simp) (h2 := fun qa821 => ?_) (hs := nilS)
          simp only [Act.put, pa]; try dsimp only [List.set]
          try simp only [List.set_cons_zero, List.set_cons_succ]
          refine readyS [10] ?_
          refine detS undef [boxW qa821 4 2 ⟨#[]⟩, boxE qe819, heapR h (HX [rowO 1 (by decide) (List.replicate k V.zero), rowO 1 (by decide) (List.replicate M V.zero)])] (h1 := fun Wx hSw => by (have hz := hSw.box (b := qa821) (o := objZ) 0 rfl; refine useZ3 hz fun z0 z1 z2 y0 y1 y2 => ?_; go_simp; exact ⟨rfl, hSw.set3 0 rfl (.int .i64 4) (.int .i64 2) (.string ⟨#[]⟩)⟩)) (h2 := ?_) (hs := nilS)
          simp only [Act.put, pa]; try dsimp only [List.set]
          refine readyS [11] ?_
          refine detS undef [boxW qa821 4 2 ⟨#[]⟩, boxE qe819, heapR h (HX [rowO 1 (by decide) (List.replicate k V.zero), rowO 1 (by decide) (List.replicate M V.zero)])] (h1 := fun Wx hSw => by (have hz := hSw.box (b := qe819) (o := objE) 1 rfl; refine useZ5 hz fun z0 z1 z2 z3 z4 y0 y1 y2 y3 y4 => ?_; go_simp; exact ⟨rfl, hSw.set5 1 rfl (.string ⟨#[]⟩) (.int .i64 0) (.int .i64 0) (.string ⟨#[]⟩) (.bool false)⟩)) (h2 := ?_) (hs := nilS)
          simp only [Act.put, pa]; try dsimp only [List.set]
          refine doneS (h := fun w10 S => ?_)
          go_wp2_with fail
          as_aux_lemma => (go_meet; exact ⟨_, _, rfl, rfl, S⟩)
        refine allocS 0 rfl (fun q => .pointer (some ⟨q, 0, none⟩)) (.cells #[.int .i64 0, .int .i64 0, .string ⟨#[]⟩] 29) (h1 := fun Wx => by go_simp) (h2 := fun qa824 => ?_) (hs := ?_)
        · simp only [Act.put, pa]; try dsimp only [List.set]
          try simp only [List.set_cons_zero, List.set_cons_succ]
          refine readyS [4] ?_
          refine detS (.tuple #[.agg #[.int .i64 4, .int .i64 2, .string ⟨#[]⟩], excZ]) [boxZ qa824, boxE qe819, heapR h (HX [rowO 1 (by decide) (List.replicate k V.zero), rowO 1 (by decide) (List.replicate M V.zero)])] (h1 := fun Wx hSw => by (go_simp; refine symCall ?_; exact mul_zeros hSw 2 rfl (HG1.out.good (by simp)) (by decide) (vX 1 (by decide)) (vI t HTI.out) rfl rfl (k := k) (M := M) rfl (by show (t : Int).toNat * k = M; rw [Int.toNat_natCast]; exact HM.out) HF.out)) (h2 := ?_) (hs := nilS)
          simp only [Act.put, pa]; try dsimp only [List.set]
          refine quietS 5 ?_
          simp only [Act.put, pa]; try dsimp only [List.set]
          refine quietS 6 ?_
          simp only [Act.put, pa]; try dsimp only [List.set]
          refine quietS 7 ?_
          simp only [Act.put, pa]; try dsimp only [List.set]
          refine readyS [10] ?_
          refine detS undef [boxW qa824 4 2 ⟨#[]⟩, boxE qe819, heapR h (HX [rowO 1 (by decide) (List.replicate k V.zero), rowO 1 (by decide) (List.replicate M V.zero)])] (h1 := fun Wx hSw => by (have hz := hSw.box (b := qa824) (o := objZ) 0 rfl; refine useZ3 hz fun z0 z1 z2 y0 y1 y2 => ?_; go_simp; exact ⟨rfl, hSw.set3 0 rfl (.int .i64 4) (.int .i64 2) (.string ⟨#[]⟩)⟩)) (h2 := ?_) (hs := nilS)
          simp only [Act.put, pa]; try dsimp only [List.set]
          refine readyS [11] ?_
          refine detS undef [boxW qa824 4 2 ⟨#[]⟩, boxE qe819, heapR h (HX [rowO 1 (by decide) (List.replicate k V.zero), rowO 1 (by decide) (List.replicate M V.zero)])] (h1 := fun Wx hSw => by (have hz := hSw.box (b := qe819) (o := objE) 1 rfl; refine useZ5 hz fun z0 z1 z2 z3 z4 y0 y1 y2 y3 y4 => ?_; go_simp; exact ⟨rfl, hSw.set5 1 rfl (.string ⟨#[]⟩) (.int .i64 0) (.int .i64 0) (.string ⟨#[]⟩) (.bool false)⟩)) (h2 := ?_) (hs := nilS)
          simp only [Act.put, pa]; try dsimp only [List.set]
          refine doneS (h := fun w10 S => ?_)
          go_wp2_with fail
          as_aux_lemma => (go_meet; exact ⟨_, _, rfl, rfl, S⟩)
        exact nilS
      exact nilS
  case rest =>
    obtain ⟨qq0_8, qq1_8, rfl, rfl, S⟩ := hcut
    replace S : Sep w (boxW qq0_8 4 2 ⟨#[]⟩ :: boxE qq1_8 :: heapR h (HX [rowO 1 (by decide) (List.replicate k V.zero), rowO 1 (by decide) (List.replicate M V.zero)]) :: boxW qv3 4 1 ⟨#[]⟩ :: valsR (.slice (some ⟨q_6_1, 0, none⟩) k k) (List.replicate k V.zero) :: []) wc := by rw [Hb8_8.out] at S; exact S
    clear Hb8_8 Kb8_8 K8_3 Cb8_8_0
    have q1 : (t : Int) * (k : Int) = (M : Int) := by rw [← HM.out]; exact (Int.natCast_mul t k).symm
    have q2 : IntKind.i64.wrap (M : Int) = (M : Int) := IntWalk.i64_in _ (by have := HMB.out; omega)
    have q3 : (M : Int) ≤ 4096 := by have := HF.out; omega
    refine named (boxW qq0_8 4 2 ⟨#[]⟩ :: boxE qq1_8 :: heapR h (HX [rowO 1 (by decide) (List.replicate k V.zero), rowO 1 (by decide) (List.replicate M V.zero)]) :: boxW qv3 4 1 ⟨#[]⟩ :: valsR (.slice (some ⟨q_6_1, 0, none⟩) k k) (List.replicate k V.zero) :: [] : List Res) fun b9_10 hb9_10 => ?_
    have Hb9_10 := Lib.hid hb9_10
    have Kb9_10 : Hid (∀ W (Q : List Res), Sep w (Q ++ b9_10) W → True) := Lib.hid fun W Q T => by
      rw [hb9_10] at T
      trivial
    replace S := Lib.hid S
    clear hb9_10
    go_upto_region 9 with fail
    have S1 : Sep w ([] ++ b9_10) (wc) := by rw [Hb9_10.out]; exact S.out
    clear S
    refine regionL (E := []) (base := b9_10) S1 ?_
    clear S1
    iterate 5 (refine quietL ?_; simp only [Act.put, pa]; try dsimp only [List.set])
    refine doneL (h := fun w12 S => ?_)
    replace S : Sep w (boxW qq0_8 4 2 ⟨#[]⟩ :: boxE qq1_8 :: heapR h (HX [rowO 1 (by decide) (List.replicate k V.zero), rowO 1 (by decide) (List.replicate M V.zero)]) :: boxW qv3 4 1 ⟨#[]⟩ :: valsR (.slice (some ⟨q_6_1, 0, none⟩) k k) (List.replicate k V.zero) :: []) w12 := by rw [Hb9_10.out] at S; exact S
    clear Hb9_10 Kb9_10
    clear q1 q2 q3
    refine named (boxW qq0_8 4 2 ⟨#[]⟩ :: boxE qq1_8 :: heapR h (HX [rowO 1 (by decide) (List.replicate k V.zero), rowO 1 (by decide) (List.replicate M V.zero)]) :: boxW qv3 4 1 ⟨#[]⟩ :: valsR (.slice (some ⟨q_6_1, 0, none⟩) k k) (List.replicate k V.zero) :: [] : List Res) fun b10_12 hb10_12 => ?_
    have Hb10_12 := Lib.hid hb10_12
    have Kb10_12 : Hid (∀ W (Q : List Res), Sep w (Q ++ b10_12) W → True) := Lib.hid fun W Q T => by
      rw [hb10_12] at T
      trivial
    have Cb10_12_0 : Hid (∀ W (Q : List Res), Sep w (Q ++ b10_12) W → W.cell? ⟨qv3, 0, none⟩ = some (.int .i64 4) ∧ W.cell? ⟨qv3, 1, none⟩ = some (.int .i64 1) ∧ W.cell? ⟨qv3, 2, none⟩ = some (.string ⟨#[]⟩)) := Lib.hid fun W Q T => by
      rw [hb10_12] at T
      have i0 := T.box (b := qv3) (o := objW 4 1 ⟨#[]⟩) (Q.length + 3) (by rw [List.getElem?_append_right (by omega), Nat.add_sub_cancel_left]; rfl)
      exact ⟨cellAt i0 0 rfl, cellAt i0 1 rfl, cellAt i0 2 rfl⟩
    have K10_2 : Hid (∀ W (Q : List Res), Sep w (Q ++ b10_12) W → Calls Tryz.prog 16 #[.int .i64 9223372036854775807] W fun e W' => e = .returned (.agg #[.int .i64 2, .int .i64 9223372036854775807, .string ⟨#[]⟩]) ∧ Sep w (Q ++ b10_12) W') := Lib.hid fun W Q T => by
      exact (lnum_ok W 9223372036854775807).mono fun e W' ⟨e1, e2⟩ => ⟨e1, T.later e2⟩
    have K10_3 : Hid (∀ W (Q : List Res), Sep w (Q ++ b10_12) W → Calls Tryz.prog 23 #[.pointer (some ⟨h, 0, none⟩), .string ⟨#[42]⟩, .agg #[.int .i64 4, .int .i64 1, .string ⟨#[]⟩], .agg #[.int .i64 2, .int .i64 9223372036854775807, .string ⟨#[]⟩]] W fun e W' => e = .returned (.tuple #[zeroV, excN memoryError]) ∧ Sep w (Q ++ b10_12) W') := Lib.hid fun W Q T => by
      rw [Hb10_12.out] at T ⊢
      exact bin_mul_row_no T (Q.length + 2) (by rw [List.getElem?_append_right (by omega), Nat.add_sub_cancel_left]; rfl) (HG2.out.good (by simp)) (by decide) (vX 1 (by decide)) (vI 9223372036854775807 (by decide)) rfl rfl (by show 4096 < (9223372036854775807 : Int).toNat * (List.replicate k V.zero).length; rw [List.length_replicate, show (9223372036854775807 : Int).toNat = 9223372036854775807 from rfl]; have := HK.out; omega)
    replace S := Lib.hid S
    clear hb10_12
    go_upto_region 10 with fail
    go_cut [13, 14] (fun s13 s14 wx => ∃ qq0_10 qq1_10, s13 = .pointer (some ⟨qq0_10, 0, none⟩) ∧ s14 = .pointer (some ⟨qq1_10, 0, none⟩) ∧ Sep w ([boxZ qq0_10, boxN qq1_10 memoryError] ++ b10_12) wx)
    case first =>
      have S1 : Sep w ([] ++ b10_12) (w12) := by rw [Hb10_12.out]; exact S.out
      clear S
      refine regionP 7 4 (E := [emptyR, emptyR]) (base := b10_12) (Sep.putE (Sep.putE S1)) ?_
      clear S1
      refine quietP ?_
      simp only [Act.put, pa]; try dsimp only [List.set]
      refine quietP (hy := fun E Wx hSw => by ((refine and3 (Cb10_12_0.out _ _ hSw) fun u0 u1 u2 => ?_); go_simp; exact ⟨rfl, hSw⟩)) (h := ?_)
      simp only [Act.put, pa]; try dsimp only [List.set]
      refine quietP (hy := fun E Wx hSw => by (go_simp; exact symCall (K10_2.out _ _ hSw))) (h := ?_)
      simp only [Act.put, pa]; try dsimp only [List.set]
      refine quietP (hy := fun E Wx hSw => by (go_simp; exact symCall (K10_3.out _ _ hSw))) (h := ?_)
      simp only [Act.put, pa]; try dsimp only [List.set]
      iterate 3 (refine quietP ?_; simp only [Act.put, pa]; try dsimp only [List.set])
      refine endP ?_
      refine readyS [7, 8] ?_
      refine allocS 0 rfl (fun q => .pointer (some ⟨q, 0, none⟩)) (.cells #[.int .i64 0, .int .i64 0, .string ⟨#[]⟩] 29) (h1 := fun Wx => by go_simp) (h2 := fun qa101 => ?_) (hs := ?_)
      · simp only [Act.put, pa]; try dsimp only [List.set]
        try simp only [List.set_cons_zero, List.set_cons_succ]
        refine readyS [8] ?_
        refine allocS 1 rfl (fun q => .pointer (some ⟨q, 0, none⟩)) (.cells #[.string ⟨#[]⟩, .int .i64 0, .int .i64 0, .string ⟨#[]⟩, .bool false] 38) (h1 := fun Wx => by go_simp) (h2 := fun qe102 => ?_) (hs := nilS)
        simp only [Act.put, pa]; try dsimp only [List.set]
        try simp only [List.set_cons_zero, List.set_cons_succ]
        refine readyS [9] ?_
        refine detS undef [boxZ qa101, boxE qe102] (h1 := fun Wx hSw => by (have hz := hSw.box (b := qa101) (o := objZ) 0 rfl; refine useZ3 hz fun z0 z1 z2 y0 y1 y2 => ?_; go_simp; exact ⟨rfl, hSw.set3 0 rfl (.int .i64 0) (.int .i64 0) (.string ⟨#[]⟩)⟩)) (h2 := ?_) (hs := nilS)
        simp only [Act.put, pa]; try dsimp only [List.set]
        refine readyS [10] ?_
        refine detS undef [boxZ qa101, boxN qe102 memoryError] (h1 := fun Wx hSw => by (have hz := hSw.box (b := qe102) (o := objE) 1 rfl; refine useZ5 hz fun z0 z1 z2 z3 z4 y0 y1 y2 y3 y4 => ?_; go_simp; exact ⟨rfl, hSw.set5 1 rfl (.string memoryError) (.int .i64 0) (.int .i64 0) (.string ⟨#[]⟩) (.bool false)⟩)) (h2 := ?_) (hs := nilS)
        simp only [Act.put, pa]; try dsimp only [List.set]
        refine doneS (h := fun w14 S => ?_)
        go_wp2_with fail
        as_aux_lemma => (go_meet; exact ⟨_, _, rfl, rfl, S⟩)
      refine allocS 1 rfl (fun q => .pointer (some ⟨q, 0, none⟩)) (.cells #[.string ⟨#[]⟩, .int .i64 0, .int .i64 0, .string ⟨#[]⟩, .bool false] 38) (h1 := fun Wx => by go_simp) (h2 := fun qe105 => ?_) (hs := ?_)
      · simp only [Act.put, pa]; try dsimp only [List.set]
        try simp only [List.set_cons_zero, List.set_cons_succ]
        refine readyS [7] ?_
        refine allocS 0 rfl (fun q => .pointer (some ⟨q, 0, none⟩)) (.cells #[.int .i64 0, .int .i64 0, .string ⟨#[]⟩] 29) (h1 := fun Wx => by go_simp) (h2 := fun qa106 => ?_) (hs := nilS)
        simp only [Act.put, pa]; try dsimp only [List.set]
        try simp only [List.set_cons_zero, List.set_cons_succ]
        refine readyS [9] ?_
        refine detS undef [boxZ qa106, boxE qe105] (h1 := fun Wx hSw => by (have hz := hSw.box (b := qa106) (o := objZ) 0 rfl; refine useZ3 hz fun z0 z1 z2 y0 y1 y2 => ?_; go_simp; exact ⟨rfl, hSw.set3 0 rfl (.int .i64 0) (.int .i64 0) (.string ⟨#[]⟩)⟩)) (h2 := ?_) (hs := nilS)
        simp only [Act.put, pa]; try dsimp only [List.set]
        refine readyS [10] ?_
        refine detS undef [boxZ qa106, boxN qe105 memoryError] (h1 := fun Wx hSw => by (have hz := hSw.box (b := qe105) (o := objE) 1 rfl; refine useZ5 hz fun z0 z1 z2 z3 z4 y0 y1 y2 y3 y4 => ?_; go_simp; exact ⟨rfl, hSw.set5 1 rfl (.string memoryError) (.int .i64 0) (.int .i64 0) (.string ⟨#[]⟩) (.bool false)⟩)) (h2 := ?_) (hs := nilS)
        simp only [Act.put, pa]; try dsimp only [List.set]
        refine doneS (h := fun w14 S => ?_)
        go_wp2_with fail
        as_aux_lemma => (go_meet; exact ⟨_, _, rfl, rfl, S⟩)
      exact nilS
    case rest =>
      obtain ⟨qq0_10, qq1_10, rfl, rfl, S⟩ := hcut
      replace S : Sep w (boxZ qq0_10 :: boxN qq1_10 memoryError :: boxW qq0_8 4 2 ⟨#[]⟩ :: boxE qq1_8 :: heapR h (HX [rowO 1 (by decide) (List.replicate k V.zero), rowO 1 (by decide) (List.replicate M V.zero)]) :: boxW qv3 4 1 ⟨#[]⟩ :: valsR (.slice (some ⟨q_6_1, 0, none⟩) k k) (List.replicate k V.zero) :: []) wc := by rw [Hb10_12.out] at S; exact S
      clear Hb10_12 Kb10_12 K10_2 K10_3 Cb10_12_0
      have HG3 : Hid (HXL [rowO 1 (by decide) (List.replicate k V.zero), rowO 1 (by decide) (List.replicate M V.zero), rowO 1 (by decide) []]) := Lib.hid (HG2.out.snoc (by simp))
      have HG4 : Hid (HXL [rowO 1 (by decide) (List.replicate k V.zero), rowO 1 (by decide) (List.replicate M V.zero), rowO 1 (by decide) [], rowO 1 (by decide) []]) := Lib.hid (HG3.out.snoc (by simp))
      replace S : Sep w (heapR h (HX [rowO 1 (by decide) (List.replicate k V.zero), rowO 1 (by decide) (List.replicate M V.zero)]) :: boxZ qq0_10 :: boxN qq1_10 memoryError :: boxW qq0_8 4 2 ⟨#[]⟩ :: boxE qq1_8 :: boxW qv3 4 1 ⟨#[]⟩ :: valsR (.slice (some ⟨q_6_1, 0, none⟩) k k) (List.replicate k V.zero) :: []) (wc) := by
        refine (show Sep w ([boxZ qq0_10, boxN qq1_10 memoryError, boxW qq0_8 4 2 ⟨#[]⟩, boxE qq1_8, heapR h (HX [rowO 1 (by decide) (List.replicate k V.zero), rowO 1 (by decide) (List.replicate M V.zero)]), boxW qv3 4 1 ⟨#[]⟩, valsR (.slice (some ⟨q_6_1, 0, none⟩) k k) (List.replicate k V.zero)] ++ []) _ from S).perm ?_
        exact List.Perm.append_right [] (perm_of (l := [boxZ qq0_10, boxN qq1_10 memoryError, boxW qq0_8 4 2 ⟨#[]⟩, boxE qq1_8, heapR h (HX [rowO 1 (by decide) (List.replicate k V.zero), rowO 1 (by decide) (List.replicate M V.zero)]), boxW qv3 4 1 ⟨#[]⟩, valsR (.slice (some ⟨q_6_1, 0, none⟩) k k) (List.replicate k V.zero)]) [4, 0, 1, 2, 3, 5, 6] (by show (List.range' 0 7).Perm [4, 0, 1, 2, 3, 5, 6]; decide) (by rfl))
      refine named (boxZ qq0_10 :: boxN qq1_10 memoryError :: boxW qq0_8 4 2 ⟨#[]⟩ :: boxE qq1_8 :: boxW qv3 4 1 ⟨#[]⟩ :: valsR (.slice (some ⟨q_6_1, 0, none⟩) k k) (List.replicate k V.zero) :: [] : List Res) fun b11_14 hb11_14 => ?_
      have Hb11_14 := Lib.hid hb11_14
      have Kb11_14 : Hid (∀ W (Q : List Res), Sep w (Q ++ b11_14) W → True) := Lib.hid fun W Q T => by
        rw [hb11_14] at T
        trivial
      replace S := Lib.hid S
      clear hb11_14
      go_upto_region 11 with fail
      have S1 : Sep w ([heapR h (HX [rowO 1 (by decide) (List.replicate k V.zero), rowO 1 (by decide) (List.replicate M V.zero)])] ++ b11_14) (wc) := by rw [Hb11_14.out]; exact S.out
      clear S
      refine regionL (E := [emptyR, emptyR, heapR h (HX [rowO 1 (by decide) (List.replicate k V.zero), rowO 1 (by decide) (List.replicate M V.zero)])]) (base := b11_14) (Sep.putE (Sep.putE S1)) ?_
      clear S1
      iterate 2 (refine quietL ?_; simp only [Act.put, pa]; try dsimp only [List.set])
      refine detL (.agg #[.int .i64 4, .int .i64 3, .string ⟨#[]⟩]) [emptyR, emptyR, heapR h (HX [rowO 1 (by decide) (List.replicate k V.zero), rowO 1 (by decide) (List.replicate M V.zero), rowO 1 (by decide) []])] (h1 := fun Wx hSw => by (go_simp; refine symCall ?_; have hh := hSw.make 2 rfl (HG2.out.good (by simp)) (by decide) (rowO 1 (by decide) []) (.slice none 0 0) (seesV_nil _) (by decide) rfl (by decide) (by decide); exact hh)) (h2 := ?_)
      simp only [Act.put, pa]; try dsimp only [List.set]
      refine detL (.agg #[.int .i64 2, .int .i64 9223372036854775807, .string ⟨#[]⟩]) [emptyR, emptyR, heapR h (HX [rowO 1 (by decide) (List.replicate k V.zero), rowO 1 (by decide) (List.replicate M V.zero), rowO 1 (by decide) []])] (h1 := fun Wx hSw => by (go_simp; refine symCall ?_; exact (lnum_ok Wx 9223372036854775807).mono fun e W' ⟨e1, e2⟩ => ⟨e1, hSw.later e2⟩)) (h2 := ?_)
      simp only [Act.put, pa]; try dsimp only [List.set]
      refine detL (.tuple #[.agg #[.int .i64 4, .int .i64 4, .string ⟨#[]⟩], excZ]) [emptyR, emptyR, heapR h (HX [rowO 1 (by decide) (List.replicate k V.zero), rowO 1 (by decide) (List.replicate M V.zero), rowO 1 (by decide) [], rowO 1 (by decide) []])] (h1 := fun Wx hSw => by (go_simp; refine symCall ?_; exact mul_empty hSw 2 rfl (HG3.out.good (by simp)) (by decide) (vX 3 (by decide)) (vI 9223372036854775807 (by decide)) rfl rfl rfl)) (h2 := ?_)
      simp only [Act.put, pa]; try dsimp only [List.set]
      iterate 3 (refine quietL ?_; simp only [Act.put, pa]; try dsimp only [List.set])
      refine allocL 0 rfl (fun q => .pointer (some ⟨q, 0, none⟩)) (.cells #[.int .i64 0, .int .i64 0, .string ⟨#[]⟩] 29) (h1 := fun Wx => by go_simp) (h2 := fun qa114 => ?_)
      simp only [Act.put, pa]; try dsimp only [List.set]
      try simp only [List.set_cons_zero, List.set_cons_succ]
      refine allocL 1 rfl (fun q => .pointer (some ⟨q, 0, none⟩)) (.cells #[.string ⟨#[]⟩, .int .i64 0, .int .i64 0, .string ⟨#[]⟩, .bool false] 38) (h1 := fun Wx => by go_simp) (h2 := fun qe115 => ?_)
      simp only [Act.put, pa]; try dsimp only [List.set]
      try simp only [List.set_cons_zero, List.set_cons_succ]
      refine detL undef [boxW qa114 4 4 ⟨#[]⟩, boxE qe115, heapR h (HX [rowO 1 (by decide) (List.replicate k V.zero), rowO 1 (by decide) (List.replicate M V.zero), rowO 1 (by decide) [], rowO 1 (by decide) []])] (h1 := fun Wx hSw => by (have hz := hSw.box (b := qa114) (o := objZ) 0 rfl; refine useZ3 hz fun z0 z1 z2 y0 y1 y2 => ?_; go_simp; exact ⟨rfl, hSw.set3 0 rfl (.int .i64 4) (.int .i64 4) (.string ⟨#[]⟩)⟩)) (h2 := ?_)
      simp only [Act.put, pa]; try dsimp only [List.set]
      refine detL undef [boxW qa114 4 4 ⟨#[]⟩, boxE qe115, heapR h (HX [rowO 1 (by decide) (List.replicate k V.zero), rowO 1 (by decide) (List.replicate M V.zero), rowO 1 (by decide) [], rowO 1 (by decide) []])] (h1 := fun Wx hSw => by (have hz := hSw.box (b := qe115) (o := objE) 1 rfl; refine useZ5 hz fun z0 z1 z2 z3 z4 y0 y1 y2 y3 y4 => ?_; go_simp; exact ⟨rfl, hSw.set5 1 rfl (.string ⟨#[]⟩) (.int .i64 0) (.int .i64 0) (.string ⟨#[]⟩) (.bool false)⟩)) (h2 := ?_)
      simp only [Act.put, pa]; try dsimp only [List.set]
      refine doneL (h := fun w16 S => ?_)
      replace S : Sep w (boxW qa114 4 4 ⟨#[]⟩ :: boxE qe115 :: heapR h (HX [rowO 1 (by decide) (List.replicate k V.zero), rowO 1 (by decide) (List.replicate M V.zero), rowO 1 (by decide) [], rowO 1 (by decide) []]) :: boxZ qq0_10 :: boxN qq1_10 memoryError :: boxW qq0_8 4 2 ⟨#[]⟩ :: boxE qq1_8 :: boxW qv3 4 1 ⟨#[]⟩ :: valsR (.slice (some ⟨q_6_1, 0, none⟩) k k) (List.replicate k V.zero) :: []) w16 := by rw [Hb11_14.out] at S; exact S
      clear Hb11_14 Kb11_14
      have q1 : (t : Int) * (k : Int) = (M : Int) := by rw [← HM.out]; exact (Int.natCast_mul t k).symm
      have q2 : IntKind.i64.wrap (M : Int) = (M : Int) := IntWalk.i64_in _ (by have := HMB.out; omega)
      have q3 : (0 : Int) < t := by have := HTQ.out; omega
      have q3n : 0 < t := by omega
      have q3d : decide (0 < t) = true := decide_eq_true q3n
      refine named (boxW qa114 4 4 ⟨#[]⟩ :: boxE qe115 :: heapR h (HX [rowO 1 (by decide) (List.replicate k V.zero), rowO 1 (by decide) (List.replicate M V.zero), rowO 1 (by decide) [], rowO 1 (by decide) []]) :: boxZ qq0_10 :: boxN qq1_10 memoryError :: boxW qq0_8 4 2 ⟨#[]⟩ :: boxE qq1_8 :: boxW qv3 4 1 ⟨#[]⟩ :: valsR (.slice (some ⟨q_6_1, 0, none⟩) k k) (List.replicate k V.zero) :: [] : List Res) fun b12_16 hb12_16 => ?_
      have Hb12_16 := Lib.hid hb12_16
      have Kb12_16 : Hid (∀ W (Q : List Res), Sep w (Q ++ b12_16) W → True) := Lib.hid fun W Q T => by
        rw [hb12_16] at T
        trivial
      have Cb12_16_0 : Hid (∀ W (Q : List Res), Sep w (Q ++ b12_16) W → W.cell? ⟨qa114, 0, none⟩ = some (.int .i64 4) ∧ W.cell? ⟨qa114, 1, none⟩ = some (.int .i64 4) ∧ W.cell? ⟨qa114, 2, none⟩ = some (.string ⟨#[]⟩)) := Lib.hid fun W Q T => by
        rw [hb12_16] at T
        have i0 := T.box (b := qa114) (o := objW 4 4 ⟨#[]⟩) (Q.length + 0) (by rw [List.getElem?_append_right (by omega), Nat.add_sub_cancel_left]; rfl)
        exact ⟨cellAt i0 0 rfl, cellAt i0 1 rfl, cellAt i0 2 rfl⟩
      have Cb12_16_1 : Hid (∀ W (Q : List Res), Sep w (Q ++ b12_16) W → W.cell? ⟨qe115, 0, none⟩ = some (.string ⟨#[]⟩) ∧ W.cell? ⟨qe115, 1, none⟩ = some (.int .i64 0) ∧ W.cell? ⟨qe115, 2, none⟩ = some (.int .i64 0) ∧ W.cell? ⟨qe115, 3, none⟩ = some (.string ⟨#[]⟩) ∧ W.cell? ⟨qe115, 4, none⟩ = some (.bool false)) := Lib.hid fun W Q T => by
        rw [hb12_16] at T
        have i0 := T.box (b := qe115) (o := objE) (Q.length + 1) (by rw [List.getElem?_append_right (by omega), Nat.add_sub_cancel_left]; rfl)
        exact ⟨cellAt i0 0 rfl, cellAt i0 1 rfl, cellAt i0 2 rfl, cellAt i0 3 rfl, cellAt i0 4 rfl⟩
      have Cb12_16_2 : Hid (∀ W (Q : List Res), Sep w (Q ++ b12_16) W → W.cell? ⟨qq0_8, 0, none⟩ = some (.int .i64 4) ∧ W.cell? ⟨qq0_8, 1, none⟩ = some (.int .i64 2) ∧ W.cell? ⟨qq0_8, 2, none⟩ = some (.string ⟨#[]⟩)) := Lib.hid fun W Q T => by
        rw [hb12_16] at T
        have i0 := T.box (b := qq0_8) (o := objW 4 2 ⟨#[]⟩) (Q.length + 5) (by rw [List.getElem?_append_right (by omega), Nat.add_sub_cancel_left]; rfl)
        exact ⟨cellAt i0 0 rfl, cellAt i0 1 rfl, cellAt i0 2 rfl⟩
      have Cb12_16_3 : Hid (∀ W (Q : List Res), Sep w (Q ++ b12_16) W → W.cell? ⟨qq1_10, 0, none⟩ = some (.string memoryError) ∧ W.cell? ⟨qq1_10, 1, none⟩ = some (.int .i64 0) ∧ W.cell? ⟨qq1_10, 2, none⟩ = some (.int .i64 0) ∧ W.cell? ⟨qq1_10, 3, none⟩ = some (.string ⟨#[]⟩) ∧ W.cell? ⟨qq1_10, 4, none⟩ = some (.bool false)) := Lib.hid fun W Q T => by
        rw [hb12_16] at T
        have i0 := T.box (b := qq1_10) (o := objN memoryError) (Q.length + 4) (by rw [List.getElem?_append_right (by omega), Nat.add_sub_cancel_left]; rfl)
        exact ⟨cellAt i0 0 rfl, cellAt i0 1 rfl, cellAt i0 2 rfl, cellAt i0 3 rfl, cellAt i0 4 rfl⟩
      have Cb12_16_4 : Hid (∀ W (Q : List Res), Sep w (Q ++ b12_16) W → W.cell? ⟨qq1_8, 0, none⟩ = some (.string ⟨#[]⟩) ∧ W.cell? ⟨qq1_8, 1, none⟩ = some (.int .i64 0) ∧ W.cell? ⟨qq1_8, 2, none⟩ = some (.int .i64 0) ∧ W.cell? ⟨qq1_8, 3, none⟩ = some (.string ⟨#[]⟩) ∧ W.cell? ⟨qq1_8, 4, none⟩ = some (.bool false)) := Lib.hid fun W Q T => by
        rw [hb12_16] at T
        have i0 := T.box (b := qq1_8) (o := objE) (Q.length + 6) (by rw [List.getElem?_append_right (by omega), Nat.add_sub_cancel_left]; rfl)
        exact ⟨cellAt i0 0 rfl, cellAt i0 1 rfl, cellAt i0 2 rfl, cellAt i0 3 rfl, cellAt i0 4 rfl⟩
      have K12_31 : Hid (∀ W (Q : List Res), Sep w (Q ++ b12_16) W → Calls Tryz.prog 21 #[excN memoryError, .string memoryError] W fun e W' => e = .returned (.bool true) ∧ Sep w (Q ++ b12_16) W') := Lib.hid fun W Q T => by
        exact (raised_memory W).mono fun e W' ⟨e1, e2⟩ => ⟨e1, T.later e2⟩
      have K12_36 : Hid (∀ W (Q : List Res), Sep w (Q ++ b12_16) W → Calls Tryz.prog 19 #[excZ] W fun e W' => e = .returned (.bool true) ∧ Sep w (Q ++ b12_16) W') := Lib.hid fun W Q T => by
        exact (none_z W).mono fun e W' ⟨e1, e2⟩ => ⟨e1, T.later e2⟩
      have K12_42 : Hid (∀ W (Q : List Res), Sep w (Q ++ b12_16) W → Calls Tryz.prog 24 #[.pointer (some ⟨h, 0, none⟩), .agg #[.int .i64 4, .int .i64 4, .string ⟨#[]⟩]] W fun e W' => e = .returned (.int .i64 0) ∧ Sep w (Q ++ b12_16) W') := Lib.hid fun W Q T => by
        rw [Hb12_16.out] at T ⊢
        exact len_at T (Q.length + 2) (by rw [List.getElem?_append_right (by omega), Nat.add_sub_cancel_left]; rfl) (vX 4 (by decide)) 0 rfl
      have K12_2 : Hid (∀ W (Q : List Res), Sep w (Q ++ b12_16) W → Calls Tryz.prog 19 #[excZ] W fun e W' => e = .returned (.bool true) ∧ Sep w (Q ++ b12_16) W') := Lib.hid fun W Q T => by
        exact (none_z W).mono fun e W' ⟨e1, e2⟩ => ⟨e1, T.later e2⟩
      have K12_18 : Hid (∀ W (Q : List Res), Sep w (Q ++ b12_16) W → Calls Tryz.prog 24 #[.pointer (some ⟨h, 0, none⟩), .agg #[.int .i64 4, .int .i64 2, .string ⟨#[]⟩]] W fun e W' => e = .returned (.int .i64 M) ∧ Sep w (Q ++ b12_16) W') := Lib.hid fun W Q T => by
        rw [Hb12_16.out] at T ⊢
        exact len_at T (Q.length + 2) (by rw [List.getElem?_append_right (by omega), Nat.add_sub_cancel_left]; rfl) (vX 2 (by decide)) M (by show (List.replicate M V.zero).length = M; exact List.length_replicate)
      replace S := Lib.hid S
      clear hb12_16
      go_upto_region 12 with fail
      have S1 : Sep w ([] ++ b12_16) (w16) := by rw [Hb12_16.out]; exact S.out
      clear S
      refine regionL (E := []) (base := b12_16) S1 ?_
      clear S1
      refine quietL ?_
      simp only [Act.put, pa]; try dsimp only [List.set]
      refine quietL (hy := fun E Wx hSw => by ((refine and5 (Cb12_16_4.out _ _ hSw) fun u0 u1 u2 u3 u4 => ?_); go_simp; exact ⟨rfl, hSw⟩)) (h := ?_)
      simp only [Act.put, pa]; try dsimp only [List.set]
      refine quietL (hy := fun E Wx hSw => by (go_simp; exact symCall (K12_2.out _ _ hSw))) (h := ?_)
      simp only [Act.put, pa]; try dsimp only [List.set]
      iterate 5 (refine quietL ?_; simp only [Act.put, pa]; try dsimp only [List.set])
      iterate 3 (refine skipL ?_; simp only [Act.put, pa]; try dsimp only [List.set])
      iterate 6 (refine quietL ?_; simp only [Act.put, pa]; try dsimp only [List.set])
      refine quietL (hy := fun E Wx hSw => by ((refine and3 (Cb12_16_2.out _ _ hSw) fun u0 u1 u2 => ?_); go_simp; exact ⟨rfl, hSw⟩)) (h := ?_)
      simp only [Act.put, pa]; try dsimp only [List.set]
      refine quietL (hy := fun E Wx hSw => by (go_simp; exact symCall (K12_18.out _ _ hSw))) (h := ?_)
      simp only [Act.put, pa]; try dsimp only [List.set]
      iterate 6 (refine quietL ?_; simp only [Act.put, pa]; try dsimp only [List.set])
      iterate 2 (refine skipL ?_; simp only [Act.put, pa]; try dsimp only [List.set])
      iterate 3 (refine quietL ?_; simp only [Act.put, pa]; try dsimp only [List.set])
      refine quietL (hy := fun E Wx hSw => by ((refine and5 (Cb12_16_3.out _ _ hSw) fun u0 u1 u2 u3 u4 => ?_); go_simp; exact ⟨rfl, hSw⟩)) (h := ?_)
      simp only [Act.put, pa]; try dsimp only [List.set]
      refine quietL (hy := fun E Wx hSw => by (go_simp; exact symCall (K12_31.out _ _ hSw))) (h := ?_)
      simp only [Act.put, pa]; try dsimp only [List.set]
      iterate 3 (refine quietL ?_; simp only [Act.put, pa]; try dsimp only [List.set])
      refine quietL (hy := fun E Wx hSw => by ((refine and5 (Cb12_16_1.out _ _ hSw) fun u0 u1 u2 u3 u4 => ?_); go_simp; exact ⟨rfl, hSw⟩)) (h := ?_)
      simp only [Act.put, pa]; try dsimp only [List.set]
      refine quietL (hy := fun E Wx hSw => by (go_simp; exact symCall (K12_36.out _ _ hSw))) (h := ?_)
      simp only [Act.put, pa]; try dsimp only [List.set]
      iterate 4 (refine quietL ?_; simp only [Act.put, pa]; try dsimp only [List.set])
      refine quietL (hy := fun E Wx hSw => by ((refine and3 (Cb12_16_0.out _ _ hSw) fun u0 u1 u2 => ?_); go_simp; exact ⟨rfl, hSw⟩)) (h := ?_)
      simp only [Act.put, pa]; try dsimp only [List.set]
      refine quietL (hy := fun E Wx hSw => by (go_simp; exact symCall (K12_42.out _ _ hSw))) (h := ?_)
      simp only [Act.put, pa]; try dsimp only [List.set]
      iterate 2 (refine quietL ?_; simp only [Act.put, pa]; try dsimp only [List.set])
      refine doneL (h := fun w18 S => ?_)
      replace S : Sep w (boxW qa114 4 4 ⟨#[]⟩ :: boxE qe115 :: heapR h (HX [rowO 1 (by decide) (List.replicate k V.zero), rowO 1 (by decide) (List.replicate M V.zero), rowO 1 (by decide) [], rowO 1 (by decide) []]) :: boxZ qq0_10 :: boxN qq1_10 memoryError :: boxW qq0_8 4 2 ⟨#[]⟩ :: boxE qq1_8 :: boxW qv3 4 1 ⟨#[]⟩ :: valsR (.slice (some ⟨q_6_1, 0, none⟩) k k) (List.replicate k V.zero) :: []) w18 := by rw [Hb12_16.out] at S; exact S
      clear Hb12_16 Kb12_16 K12_31 K12_36 K12_42 K12_2 K12_18 Cb12_16_0 Cb12_16_1 Cb12_16_2 Cb12_16_3 Cb12_16_4
      refine named (boxW qa114 4 4 ⟨#[]⟩ :: boxE qe115 :: heapR h (HX [rowO 1 (by decide) (List.replicate k V.zero), rowO 1 (by decide) (List.replicate M V.zero), rowO 1 (by decide) [], rowO 1 (by decide) []]) :: boxZ qq0_10 :: boxN qq1_10 memoryError :: boxW qq0_8 4 2 ⟨#[]⟩ :: boxE qq1_8 :: boxW qv3 4 1 ⟨#[]⟩ :: valsR (.slice (some ⟨q_6_1, 0, none⟩) k k) (List.replicate k V.zero) :: [] : List Res) fun b14_18 hb14_18 => ?_
      have Hb14_18 := Lib.hid hb14_18
      have Kb14_18 : Hid (∀ W (Q : List Res), Sep w (Q ++ b14_18) W → True) := Lib.hid fun W Q T => by
        rw [hb14_18] at T
        trivial
      replace S := Lib.hid S
      clear hb14_18
      go_upto_region 14 with fail
      have S1 : Sep w ([] ++ b14_18) (w18) := by rw [Hb14_18.out]; exact S.out
      clear S
      refine regionL (E := []) (base := b14_18) S1 ?_
      clear S1
      iterate 5 (refine quietL ?_; simp only [Act.put, pa]; try dsimp only [List.set])
      refine doneL (h := fun w20 S => ?_)
      replace S : Sep w (boxW qa114 4 4 ⟨#[]⟩ :: boxE qe115 :: heapR h (HX [rowO 1 (by decide) (List.replicate k V.zero), rowO 1 (by decide) (List.replicate M V.zero), rowO 1 (by decide) [], rowO 1 (by decide) []]) :: boxZ qq0_10 :: boxN qq1_10 memoryError :: boxW qq0_8 4 2 ⟨#[]⟩ :: boxE qq1_8 :: boxW qv3 4 1 ⟨#[]⟩ :: valsR (.slice (some ⟨q_6_1, 0, none⟩) k k) (List.replicate k V.zero) :: []) w20 := by rw [Hb14_18.out] at S; exact S
      clear Hb14_18 Kb14_18
      clear q3n q3d
      as_aux_lemma =>
        have HG5 : Hid (HXL [rowO 1 (by decide) (List.replicate k V.zero), rowO 1 (by decide) (List.replicate M V.zero), rowO 1 (by decide) [], rowO 1 (by decide) [], rowO 1 (by decide) (List.replicate (4096 - M) V.zero)]) := Lib.hid (HG4.out.snoc (by rw [List.length_replicate]; omega))
        obtain ⟨ZZ, hZZ⟩ : ∃ l, l = (List.replicate M V.zero) ++ (List.replicate (4096 - M) V.zero) := ⟨_, rfl⟩
        have HZL : Hid (ZZ.length = 4096) := Lib.hid (by rw [hZZ, List.length_append, List.length_replicate, List.length_replicate]; have := HF.out; omega)
        have HZZ := Lib.hid hZZ
        clear hZZ
        have HG6 : Hid (HXL [rowO 1 (by decide) (List.replicate k V.zero), rowO 1 (by decide) (List.replicate M V.zero), rowO 1 (by decide) [], rowO 1 (by decide) [], rowO 1 (by decide) (List.replicate (4096 - M) V.zero), rowO 1 (by decide) ZZ]) := Lib.hid (HG5.out.snoc (by rw [HZL.out]; decide))
        have q4 : (4096 : Int) - M = ((4096 - M : Nat) : Int) := by have := HF.out; omega
        obtain ⟨z, hz⟩ : ∃ z, z = 4096 - M := ⟨_, rfl⟩
        rw [← hz] at q4
        have HZ : Hid (z = 4096 - M) := Lib.hid hz
        have q5 : IntKind.i64.wrap (z : Int) = (z : Int) := IntWalk.i64_in _ (by omega)
        have q6 : IntKind.i64.wrap ((z : Int) + 1) = ((z + 1 : Nat) : Int) := (IntWalk.i64_in _ (by omega)).trans (by omega)
        have Q6 := Lib.hid q6
        clear q6 q3 hz
        rw [← HZ.out] at HG6 HG5 HZZ
        replace S : Sep w (heapR h (HX [rowO 1 (by decide) (List.replicate k V.zero), rowO 1 (by decide) (List.replicate M V.zero), rowO 1 (by decide) [], rowO 1 (by decide) []]) :: boxW qa114 4 4 ⟨#[]⟩ :: boxE qe115 :: boxZ qq0_10 :: boxN qq1_10 memoryError :: boxW qq0_8 4 2 ⟨#[]⟩ :: boxE qq1_8 :: boxW qv3 4 1 ⟨#[]⟩ :: valsR (.slice (some ⟨q_6_1, 0, none⟩) k k) (List.replicate k V.zero) :: []) (w20) := by
          refine (show Sep w ([boxW qa114 4 4 ⟨#[]⟩, boxE qe115, heapR h (HX [rowO 1 (by decide) (List.replicate k V.zero), rowO 1 (by decide) (List.replicate M V.zero), rowO 1 (by decide) [], rowO 1 (by decide) []]), boxZ qq0_10, boxN qq1_10 memoryError, boxW qq0_8 4 2 ⟨#[]⟩, boxE qq1_8, boxW qv3 4 1 ⟨#[]⟩, valsR (.slice (some ⟨q_6_1, 0, none⟩) k k) (List.replicate k V.zero)] ++ []) _ from S).perm ?_
          exact List.Perm.append_right [] (perm_of (l := [boxW qa114 4 4 ⟨#[]⟩, boxE qe115, heapR h (HX [rowO 1 (by decide) (List.replicate k V.zero), rowO 1 (by decide) (List.replicate M V.zero), rowO 1 (by decide) [], rowO 1 (by decide) []]), boxZ qq0_10, boxN qq1_10 memoryError, boxW qq0_8 4 2 ⟨#[]⟩, boxE qq1_8, boxW qv3 4 1 ⟨#[]⟩, valsR (.slice (some ⟨q_6_1, 0, none⟩) k k) (List.replicate k V.zero)]) [2, 0, 1, 3, 4, 5, 6, 7, 8] (by show (List.range' 0 9).Perm [2, 0, 1, 3, 4, 5, 6, 7, 8]; decide) (by rfl))
        refine named (boxW qa114 4 4 ⟨#[]⟩ :: boxE qe115 :: boxZ qq0_10 :: boxN qq1_10 memoryError :: boxW qq0_8 4 2 ⟨#[]⟩ :: boxE qq1_8 :: boxW qv3 4 1 ⟨#[]⟩ :: valsR (.slice (some ⟨q_6_1, 0, none⟩) k k) (List.replicate k V.zero) :: [] : List Res) fun b15_20 hb15_20 => ?_
        have Hb15_20 := Lib.hid hb15_20
        have Kb15_20 : Hid (∀ W (Q : List Res), Sep w (Q ++ b15_20) W → True) := Lib.hid fun W Q T => by
          rw [hb15_20] at T
          trivial
        have Cb15_20_0 : Hid (∀ W (Q : List Res), Sep w (Q ++ b15_20) W → W.cell? ⟨qq0_8, 0, none⟩ = some (.int .i64 4) ∧ W.cell? ⟨qq0_8, 1, none⟩ = some (.int .i64 2) ∧ W.cell? ⟨qq0_8, 2, none⟩ = some (.string ⟨#[]⟩)) := Lib.hid fun W Q T => by
          rw [hb15_20] at T
          have i0 := T.box (b := qq0_8) (o := objW 4 2 ⟨#[]⟩) (Q.length + 4) (by rw [List.getElem?_append_right (by omega), Nat.add_sub_cancel_left]; rfl)
          exact ⟨cellAt i0 0 rfl, cellAt i0 1 rfl, cellAt i0 2 rfl⟩
        replace S := Lib.hid S
        clear hb15_20
        go_upto_region 15 with fail
        go_cut [17, 18] (fun s17 s18 wx => ∃ qq0 qq1 qr, s17 = .pointer (some ⟨qq0, 0, none⟩) ∧ s18 = .pointer (some ⟨qq1, 0, none⟩) ∧ Sep w ([boxW qq0 4 6 ⟨#[]⟩, boxE qq1, valsR (.slice (some ⟨qr, 0, none⟩) z z) (List.replicate z V.zero), heapR h (HX [rowO 1 (by decide) (List.replicate k V.zero), rowO 1 (by decide) (List.replicate M V.zero), rowO 1 (by decide) [], rowO 1 (by decide) [], rowO 1 (by decide) (List.replicate z V.zero), rowO 1 (by decide) ZZ])] ++ b15_20) wx)
        case first =>
          have S1 : Sep w ([heapR h (HX [rowO 1 (by decide) (List.replicate k V.zero), rowO 1 (by decide) (List.replicate M V.zero), rowO 1 (by decide) [], rowO 1 (by decide) []])] ++ b15_20) (w20) := by rw [Hb15_20.out]; exact S.out
          clear S
          as_aux_lemma =>
            refine regionP 7 10 (E := [emptyR, emptyR, emptyR, heapR h (HX [rowO 1 (by decide) (List.replicate k V.zero), rowO 1 (by decide) (List.replicate M V.zero), rowO 1 (by decide) [], rowO 1 (by decide) []])]) (base := b15_20) (Sep.putE (Sep.putE (Sep.putE S1))) ?_
            clear S1
            refine quietP ?_
            simp only [Act.put, pa]; try dsimp only [List.set]
            refine quietP (hy := fun E Wx hSw => by ((refine and3 (Cb15_20_0.out _ _ hSw) fun u0 u1 u2 => ?_); go_simp; exact ⟨rfl, hSw⟩)) (h := ?_)
            simp only [Act.put, pa]; try dsimp only [List.set]
            iterate 5 (refine quietP ?_; simp only [Act.put, pa]; try dsimp only [List.set])
            refine endP ?_
            refine readyS [7, 13, 14] ?_
            refine stepS (fun v E1 => ∃ (q_22_1 : Nat), v = .slice (some ⟨q_22_1, 0, none⟩) z z ∧ E1 = [emptyR, emptyR, valsR (.slice (some ⟨q_22_1, 0, none⟩) z z) (List.replicate z V.zero), heapR h (HX [rowO 1 (by decide) (List.replicate k V.zero), rowO 1 (by decide) (List.replicate M V.zero), rowO 1 (by decide) [], rowO 1 (by decide) []])]) (h1 := fun Wx hSw => by (obtain ⟨g, w2, hr, S2⟩ := Sep.makeV hSw z (by have := HZ.out; omega); exact symMake _ _ _ rfl _ _ rfl rfl hr ⟨_, ⟨_, rfl, rfl⟩, S2.into 2 rfl⟩)) (h2 := fun v E1 hvE => ?_) (hs := ?_)
            · obtain ⟨q_22_1, rfl, rfl⟩ := hvE
              simp only [Act.put, pa]; try dsimp only [List.set]
              refine readyS [8, 13, 14] ?_
              refine detS (.agg #[.int .i64 4, .int .i64 5, .string ⟨#[]⟩]) [emptyR, emptyR, valsR (.slice (some ⟨q_22_1, 0, none⟩) z z) (List.replicate z V.zero), heapR h (HX [rowO 1 (by decide) (List.replicate k V.zero), rowO 1 (by decide) (List.replicate M V.zero), rowO 1 (by decide) [], rowO 1 (by decide) [], rowO 1 (by decide) (List.replicate z V.zero)])] (h1 := fun Wx hSw => by (go_simp; refine symCall ?_; have hh := hSw.make 3 rfl (HG4.out.good (by simp)) (by decide) (rowO 1 (by decide) (List.replicate z V.zero)) (.slice (some ⟨q_22_1, 0, none⟩) z z) (hSw.seesV 2 rfl) (by show (List.replicate z V.zero).length ≤ 4194304; rw [List.length_replicate]; have := HZ.out; omega) rfl (show (1 : Int) ≤ 1 by decide) (show (1 : Int) ≤ 12 by decide); exact hh)) (h2 := ?_) (hs := ?_)
              · simp only [Act.put, pa]; try dsimp only [List.set]
                refine readyS [9, 13, 14] ?_
                refine detS (.tuple #[.agg #[.int .i64 4, .int .i64 6, .string ⟨#[]⟩], excZ]) [emptyR, emptyR, valsR (.slice (some ⟨q_22_1, 0, none⟩) z z) (List.replicate z V.zero), heapR h (HX [rowO 1 (by decide) (List.replicate k V.zero), rowO 1 (by decide) (List.replicate M V.zero), rowO 1 (by decide) [], rowO 1 (by decide) [], rowO 1 (by decide) (List.replicate z V.zero), rowO 1 (by decide) ZZ])] (h1 := fun Wx hSw => by (go_simp; refine symCall ?_; exact bin_add_rows hSw 3 rfl (HG5.out.good (by simp)) (by decide) (vX 2 (by decide)) (vX 5 (by decide)) rfl rfl ZZ HZZ.out.symm (Nat.le_of_eq HZL.out))) (h2 := ?_) (hs := ?_)
                · simp only [Act.put, pa]; try dsimp only [List.set]
                  refine quietS 10 ?_
                  simp only [Act.put, pa]; try dsimp only [List.set]
                  refine quietS 11 ?_
                  simp only [Act.put, pa]; try dsimp only [List.set]
                  refine quietS 12 ?_
                  simp only [Act.put, pa]; try dsimp only [List.set]
                  refine readyS [13, 14] ?_
                  refine allocS 0 rfl (fun q => .pointer (some ⟨q, 0, none⟩)) (.cells #[.int .i64 0, .int .i64 0, .string ⟨#[]⟩] 29) (h1 := fun Wx => by go_simp) (h2 := fun qa154 => ?_) (hs := ?_)
                  · simp only [Act.put, pa]; try dsimp only [List.set]
                    try simp only [List.set_cons_zero, List.set_cons_succ]
                    refine readyS [14] ?_
                    refine allocS 1 rfl (fun q => .pointer (some ⟨q, 0, none⟩)) (.cells #[.string ⟨#[]⟩, .int .i64 0, .int .i64 0, .string ⟨#[]⟩, .bool false] 38) (h1 := fun Wx => by go_simp) (h2 := fun qe155 => ?_) (hs := nilS)
                    simp only [Act.put, pa]; try dsimp only [List.set]
                    try simp only [List.set_cons_zero, List.set_cons_succ]
                    refine readyS [15] ?_
                    refine detS undef [boxW qa154 4 6 ⟨#[]⟩, boxE qe155, valsR (.slice (some ⟨q_22_1, 0, none⟩) z z) (List.replicate z V.zero), heapR h (HX [rowO 1 (by decide) (List.replicate k V.zero), rowO 1 (by decide) (List.replicate M V.zero), rowO 1 (by decide) [], rowO 1 (by decide) [], rowO 1 (by decide) (List.replicate z V.zero), rowO 1 (by decide) ZZ])] (h1 := fun Wx hSw => by (have hz := hSw.box (b := qa154) (o := objZ) 0 rfl; refine useZ3 hz fun z0 z1 z2 y0 y1 y2 => ?_; go_simp; exact ⟨rfl, hSw.set3 0 rfl (.int .i64 4) (.int .i64 6) (.string ⟨#[]⟩)⟩)) (h2 := ?_) (hs := nilS)
                    simp only [Act.put, pa]; try dsimp only [List.set]
                    refine readyS [16] ?_
                    refine detS undef [boxW qa154 4 6 ⟨#[]⟩, boxE qe155, valsR (.slice (some ⟨q_22_1, 0, none⟩) z z) (List.replicate z V.zero), heapR h (HX [rowO 1 (by decide) (List.replicate k V.zero), rowO 1 (by decide) (List.replicate M V.zero), rowO 1 (by decide) [], rowO 1 (by decide) [], rowO 1 (by decide) (List.replicate z V.zero), rowO 1 (by decide) ZZ])] (h1 := fun Wx hSw => by (have hz := hSw.box (b := qe155) (o := objE) 1 rfl; refine useZ5 hz fun z0 z1 z2 z3 z4 y0 y1 y2 y3 y4 => ?_; go_simp; exact ⟨rfl, hSw.set5 1 rfl (.string ⟨#[]⟩) (.int .i64 0) (.int .i64 0) (.string ⟨#[]⟩) (.bool false)⟩)) (h2 := ?_) (hs := nilS)
                    simp only [Act.put, pa]; try dsimp only [List.set]
                    refine doneS (h := fun w22 S => ?_)
                    go_wp2_with fail
                    go_meet
                    exact ⟨_, _, _, rfl, rfl, S⟩
                  refine allocS 1 rfl (fun q => .pointer (some ⟨q, 0, none⟩)) (.cells #[.string ⟨#[]⟩, .int .i64 0, .int .i64 0, .string ⟨#[]⟩, .bool false] 38) (h1 := fun Wx => by go_simp) (h2 := fun qe158 => ?_) (hs := ?_)
                  · simp only [Act.put, pa]; try dsimp only [List.set]
                    try simp only [List.set_cons_zero, List.set_cons_succ]
                    refine readyS [13] ?_
                    refine allocS 0 rfl (fun q => .pointer (some ⟨q, 0, none⟩)) (.cells #[.int .i64 0, .int .i64 0, .string ⟨#[]⟩] 29) (h1 := fun Wx => by go_simp) (h2 := fun qa159 => ?_) (hs := nilS)
                    simp only [Act.put, pa]; try dsimp only [List.set]
                    try simp only [List.set_cons_zero, List.set_cons_succ]
                    refine readyS [15] ?_
                    refine detS undef [boxW qa159 4 6 ⟨#[]⟩, boxE qe158, valsR (.slice (some ⟨q_22_1, 0, none⟩) z z) (List.replicate z V.zero), heapR h (HX [rowO 1 (by decide) (List.replicate k V.zero), rowO 1 (by decide) (List.replicate M V.zero), rowO 1 (by decide) [], rowO 1 (by decide) [], rowO 1 (by decide) (List.replicate z V.zero), rowO 1 (by decide) ZZ])] (h1 := fun Wx hSw => by (have hz := hSw.box (b := qa159) (o := objZ) 0 rfl; refine useZ3 hz fun z0 z1 z2 y0 y1 y2 => ?_; go_simp; exact ⟨rfl, hSw.set3 0 rfl (.int .i64 4) (.int .i64 6) (.string ⟨#[]⟩)⟩)) (h2 := ?_) (hs := nilS)
                    simp only [Act.put, pa]; try dsimp only [List.set]
                    refine readyS [16] ?_
                    refine detS undef [boxW qa159 4 6 ⟨#[]⟩, boxE qe158, valsR (.slice (some ⟨q_22_1, 0, none⟩) z z) (List.replicate z V.zero), heapR h (HX [rowO 1 (by decide) (List.replicate k V.zero), rowO 1 (by decide) (List.replicate M V.zero), rowO 1 (by decide) [], rowO 1 (by decide) [], rowO 1 (by decide) (List.replicate z V.zero), rowO 1 (by decide) ZZ])] (h1 := fun Wx hSw => by (have hz := hSw.box (b := qe158) (o := objE) 1 rfl; refine useZ5 hz fun z0 z1 z2 z3 z4 y0 y1 y2 y3 y4 => ?_; go_simp; exact ⟨rfl, hSw.set5 1 rfl (.string ⟨#[]⟩) (.int .i64 0) (.int .i64 0) (.string ⟨#[]⟩) (.bool false)⟩)) (h2 := ?_) (hs := nilS)
                    simp only [Act.put, pa]; try dsimp only [List.set]
                    refine doneS (h := fun w22 S => ?_)
                    go_wp2_with fail
                    go_meet
                    exact ⟨_, _, _, rfl, rfl, S⟩
                  exact nilS
                refine allocS 0 rfl (fun q => .pointer (some ⟨q, 0, none⟩)) (.cells #[.int .i64 0, .int .i64 0, .string ⟨#[]⟩] 29) (h1 := fun Wx => by go_simp) (h2 := fun qa1512 => ?_) (hs := ?_)
                · simp only [Act.put, pa]; try dsimp only [List.set]
                  try simp only [List.set_cons_zero, List.set_cons_succ]
                  refine readyS [9, 14] ?_
                  refine detS (.tuple #[.agg #[.int .i64 4, .int .i64 6, .string ⟨#[]⟩], excZ]) [boxZ qa1512, emptyR, valsR (.slice (some ⟨q_22_1, 0, none⟩) z z) (List.replicate z V.zero), heapR h (HX [rowO 1 (by decide) (List.replicate k V.zero), rowO 1 (by decide) (List.replicate M V.zero), rowO 1 (by decide) [], rowO 1 (by decide) [], rowO 1 (by decide) (List.replicate z V.zero), rowO 1 (by decide) ZZ])] (h1 := fun Wx hSw => by (go_simp; refine symCall ?_; exact bin_add_rows hSw 3 rfl (HG5.out.good (by simp)) (by decide) (vX 2 (by decide)) (vX 5 (by decide)) rfl rfl ZZ HZZ.out.symm (Nat.le_of_eq HZL.out))) (h2 := ?_) (hs := ?_)
                  · simp only [Act.put, pa]; try dsimp only [List.set]
                    refine quietS 10 ?_
                    simp only [Act.put, pa]; try dsimp only [List.set]
                    refine quietS 11 ?_
                    simp only [Act.put, pa]; try dsimp only [List.set]
                    refine quietS 12 ?_
                    simp only [Act.put, pa]; try dsimp only [List.set]
                    refine readyS [14] ?_
                    refine allocS 1 rfl (fun q => .pointer (some ⟨q, 0, none⟩)) (.cells #[.string ⟨#[]⟩, .int .i64 0, .int .i64 0, .string ⟨#[]⟩, .bool false] 38) (h1 := fun Wx => by go_simp) (h2 := fun qe1514 => ?_) (hs := nilS)
                    simp only [Act.put, pa]; try dsimp only [List.set]
                    try simp only [List.set_cons_zero, List.set_cons_succ]
                    refine readyS [15] ?_
                    refine detS undef [boxW qa1512 4 6 ⟨#[]⟩, boxE qe1514, valsR (.slice (some ⟨q_22_1, 0, none⟩) z z) (List.replicate z V.zero), heapR h (HX [rowO 1 (by decide) (List.replicate k V.zero), rowO 1 (by decide) (List.replicate M V.zero), rowO 1 (by decide) [], rowO 1 (by decide) [], rowO 1 (by decide) (List.replicate z V.zero), rowO 1 (by decide) ZZ])] (h1 := fun Wx hSw => by (have hz := hSw.box (b := qa1512) (o := objZ) 0 rfl; refine useZ3 hz fun z0 z1 z2 y0 y1 y2 => ?_; go_simp; exact ⟨rfl, hSw.set3 0 rfl (.int .i64 4) (.int .i64 6) (.string ⟨#[]⟩)⟩)) (h2 := ?_) (hs := nilS)
                    simp only [Act.put, pa]; try dsimp only [List.set]
                    refine readyS [16] ?_
                    refine detS undef [boxW qa1512 4 6 ⟨#[]⟩, boxE qe1514, valsR (.slice (some ⟨q_22_1, 0, none⟩) z z) (List.replicate z V.zero), heapR h (HX [rowO 1 (by decide) (List.replicate k V.zero), rowO 1 (by decide) (List.replicate M V.zero), rowO 1 (by decide) [], rowO 1 (by decide) [], rowO 1 (by decide) (List.replicate z V.zero), rowO 1 (by decide) ZZ])] (h1 := fun Wx hSw => by (have hz := hSw.box (b := qe1514) (o := objE) 1 rfl; refine useZ5 hz fun z0 z1 z2 z3 z4 y0 y1 y2 y3 y4 => ?_; go_simp; exact ⟨rfl, hSw.set5 1 rfl (.string ⟨#[]⟩) (.int .i64 0) (.int .i64 0) (.string ⟨#[]⟩) (.bool false)⟩)) (h2 := ?_) (hs := nilS)
                    simp only [Act.put, pa]; try dsimp only [List.set]
                    refine doneS (h := fun w22 S => ?_)
                    go_wp2_with fail
                    go_meet
                    exact ⟨_, _, _, rfl, rfl, S⟩
                  refine allocS 1 rfl (fun q => .pointer (some ⟨q, 0, none⟩)) (.cells #[.string ⟨#[]⟩, .int .i64 0, .int .i64 0, .string ⟨#[]⟩, .bool false] 38) (h1 := fun Wx => by go_simp) (h2 := fun qe1517 => ?_) (hs := ?_)
                  · simp only [Act.put, pa]; try dsimp only [List.set]
                    try simp only [List.set_cons_zero, List.set_cons_succ]
                    refine readyS [9] ?_
                    refine detS (.tuple #[.agg #[.int .i64 4, .int .i64 6, .string ⟨#[]⟩], excZ]) [boxZ qa1512, boxE qe1517, valsR (.slice (some ⟨q_22_1, 0, none⟩) z z) (List.replicate z V.zero), heapR h (HX [rowO 1 (by decide) (List.replicate k V.zero), rowO 1 (by decide) (List.replicate M V.zero), rowO 1 (by decide) [], rowO 1 (by decide) [], rowO 1 (by decide) (List.replicate z V.zero), rowO 1 (by decide) ZZ])] (h1 := fun Wx hSw => by (go_simp; refine symCall ?_; exact bin_add_rows hSw 3 rfl (HG5.out.good (by simp)) (by decide) (vX 2 (by decide)) (vX 5 (by decide)) rfl rfl ZZ HZZ.out.symm (Nat.le_of_eq HZL.out))) (h2 := ?_) (hs := nilS)
                    simp only [Act.put, pa]; try dsimp only [List.set]
                    refine quietS 10 ?_
                    simp only [Act.put, pa]; try dsimp only [List.set]
                    refine quietS 11 ?_
                    simp only [Act.put, pa]; try dsimp only [List.set]
                    refine quietS 12 ?_
                    simp only [Act.put, pa]; try dsimp only [List.set]
                    refine readyS [15] ?_
                    refine detS undef [boxW qa1512 4 6 ⟨#[]⟩, boxE qe1517, valsR (.slice (some ⟨q_22_1, 0, none⟩) z z) (List.replicate z V.zero), heapR h (HX [rowO 1 (by decide) (List.replicate k V.zero), rowO 1 (by decide) (List.replicate M V.zero), rowO 1 (by decide) [], rowO 1 (by decide) [], rowO 1 (by decide) (List.replicate z V.zero), rowO 1 (by decide) ZZ])] (h1 := fun Wx hSw => by (have hz := hSw.box (b := qa1512) (o := objZ) 0 rfl; refine useZ3 hz fun z0 z1 z2 y0 y1 y2 => ?_; go_simp; exact ⟨rfl, hSw.set3 0 rfl (.int .i64 4) (.int .i64 6) (.string ⟨#[]⟩)⟩)) (h2 := ?_) (hs := nilS)
                    simp only [Act.put, pa]; try dsimp only [List.set]
                    refine readyS [16] ?_
                    refine detS undef [boxW qa1512 4 6 ⟨#[]⟩, boxE qe1517, valsR (.slice (some ⟨q_22_1, 0, none⟩) z z) (List.replicate z V.zero), heapR h (HX [rowO 1 (by decide) (List.replicate k V.zero), rowO 1 (by decide) (List.replicate M V.zero), rowO 1 (by decide) [], rowO 1 (by decide) [], rowO 1 (by decide) (List.replicate z V.zero), rowO 1 (by decide) ZZ])] (h1 := fun Wx hSw => by (have hz := hSw.box (b := qe1517) (o := objE) 1 rfl; refine useZ5 hz fun z0 z1 z2 z3 z4 y0 y1 y2 y3 y4 => ?_; go_simp; exact ⟨rfl, hSw.set5 1 rfl (.string ⟨#[]⟩) (.int .i64 0) (.int .i64 0) (.string ⟨#[]⟩) (.bool false)⟩)) (h2 := ?_) (hs := nilS)
                    simp only [Act.put, pa]; try dsimp only [List.set]
                    refine doneS (h := fun w22 S => ?_)
                    go_wp2_with fail
                    go_meet
                    exact ⟨_, _, _, rfl, rfl, S⟩
                  exact nilS
                refine allocS 1 rfl (fun q => .pointer (some ⟨q, 0, none⟩)) (.cells #[.string ⟨#[]⟩, .int .i64 0, .int .i64 0, .string ⟨#[]⟩, .bool false] 38) (h1 := fun Wx => by go_simp) (h2 := fun qe1521 => ?_) (hs := ?_)
                · simp only [Act.put, pa]; try dsimp only [List.set]
                  try simp only [List.set_cons_zero, List.set_cons_succ]
                  refine readyS [9, 13] ?_
                  refine detS (.tuple #[.agg #[.int .i64 4, .int .i64 6, .string ⟨#[]⟩], excZ]) [emptyR, boxE qe1521, valsR (.slice (some ⟨q_22_1, 0, none⟩) z z) (List.replicate z V.zero), heapR h (HX [rowO 1 (by decide) (List.replicate k V.zero), rowO 1 (by decide) (List.replicate M V.zero), rowO 1 (by decide) [], rowO 1 (by decide) [], rowO 1 (by decide) (List.replicate z V.zero), rowO 1 (by decide) ZZ])] (h1 := fun Wx hSw => by (go_simp; refine symCall ?_; exact bin_add_rows hSw 3 rfl (HG5.out.good (by simp)) (by decide) (vX 2 (by decide)) (vX 5 (by decide)) rfl rfl ZZ HZZ.out.symm (Nat.le_of_eq HZL.out))) (h2 := ?_) (hs := ?_)
                  · simp only [Act.put, pa]; try dsimp only [List.set]
                    refine quietS 10 ?_
                    simp only [Act.put, pa]; try dsimp only [List.set]
                    refine quietS 11 ?_
                    simp only [Act.put, pa]; try dsimp only [List.set]
                    refine quietS 12 ?_
                    simp only [Act.put, pa]; try dsimp only [List.set]
                    refine readyS [13] ?_
                    refine allocS 0 rfl (fun q => .pointer (some ⟨q, 0, none⟩)) (.cells #[.int .i64 0, .int .i64 0, .string ⟨#[]⟩] 29) (h1 := fun Wx => by go_simp) (h2 := fun qa1523 => ?_) (hs := nilS)
                    simp only [Act.put, pa]; try dsimp only [List.set]
                    try simp only [List.set_cons_zero, List.set_cons_succ]
                    refine readyS [15] ?_
                    refine detS undef [boxW qa1523 4 6 ⟨#[]⟩, boxE qe1521, valsR (.slice (some ⟨q_22_1, 0, none⟩) z z) (List.replicate z V.zero), heapR h (HX [rowO 1 (by decide) (List.replicate k V.zero), rowO 1 (by decide) (List.replicate M V.zero), rowO 1 (by decide) [], rowO 1 (by decide) [], rowO 1 (by decide) (List.replicate z V.zero), rowO 1 (by decide) ZZ])] (h1 := fun Wx hSw => by (have hz := hSw.box (b := qa1523) (o := objZ) 0 rfl; refine useZ3 hz fun z0 z1 z2 y0 y1 y2 => ?_; go_simp; exact ⟨rfl, hSw.set3 0 rfl (.int .i64 4) (.int .i64 6) (.string ⟨#[]⟩)⟩)) (h2 := ?_) (hs := nilS)
                    simp only [Act.put, pa]; try dsimp only [List.set]
                    refine readyS [16] ?_
                    refine detS undef [boxW qa1523 4 6 ⟨#[]⟩, boxE qe1521, valsR (.slice (some ⟨q_22_1, 0, none⟩) z z) (List.replicate z V.zero), heapR h (HX [rowO 1 (by decide) (List.replicate k V.zero), rowO 1 (by decide) (List.replicate M V.zero), rowO 1 (by decide) [], rowO 1 (by decide) [], rowO 1 (by decide) (List.replicate z V.zero), rowO 1 (by decide) ZZ])] (h1 := fun Wx hSw => by (have hz := hSw.box (b := qe1521) (o := objE) 1 rfl; refine useZ5 hz fun z0 z1 z2 z3 z4 y0 y1 y2 y3 y4 => ?_; go_simp; exact ⟨rfl, hSw.set5 1 rfl (.string ⟨#[]⟩) (.int .i64 0) (.int .i64 0) (.string ⟨#[]⟩) (.bool false)⟩)) (h2 := ?_) (hs := nilS)
                    simp only [Act.put, pa]; try dsimp only [List.set]
                    refine doneS (h := fun w22 S => ?_)
                    go_wp2_with fail
                    go_meet
                    exact ⟨_, _, _, rfl, rfl, S⟩
                  refine allocS 0 rfl (fun q => .pointer (some ⟨q, 0, none⟩)) (.cells #[.int .i64 0, .int .i64 0, .string ⟨#[]⟩] 29) (h1 := fun Wx => by go_simp) (h2 := fun qa1526 => ?_) (hs := ?_)
                  · simp only [Act.put, pa]; try dsimp only [List.set]
                    try simp only [List.set_cons_zero, List.set_cons_succ]
                    refine readyS [9] ?_
                    refine detS (.tuple #[.agg #[.int .i64 4, .int .i64 6, .string ⟨#[]⟩], excZ]) [boxZ qa1526, boxE qe1521, valsR (.slice (some ⟨q_22_1, 0, none⟩) z z) (List.replicate z V.zero), heapR h (HX [rowO 1 (by decide) (List.replicate k V.zero), rowO 1 (by decide) (List.replicate M V.zero), rowO 1 (by decide) [], rowO 1 (by decide) [], rowO 1 (by decide) (List.replicate z V.zero), rowO 1 (by decide) ZZ])] (h1 := fun Wx hSw => by (go_simp; refine symCall ?_; exact bin_add_rows hSw 3 rfl (HG5.out.good (by simp)) (by decide) (vX 2 (by decide)) (vX 5 (by decide)) rfl rfl ZZ HZZ.out.symm (Nat.le_of_eq HZL.out))) (h2 := ?_) (hs := nilS)
                    simp only [Act.put, pa]; try dsimp only [List.set]
                    refine quietS 10 ?_
                    simp only [Act.put, pa]; try dsimp only [List.set]
                    refine quietS 11 ?_
                    simp only [Act.put, pa]; try dsimp only [List.set]
                    refine quietS 12 ?_
                    simp only [Act.put, pa]; try dsimp only [List.set]
                    refine readyS [15] ?_
                    refine detS undef [boxW qa1526 4 6 ⟨#[]⟩, boxE qe1521, valsR (.slice (some ⟨q_22_1, 0, none⟩) z z) (List.replicate z V.zero), heapR h (HX [rowO 1 (by decide) (List.replicate k V.zero), rowO 1 (by decide) (List.replicate M V.zero), rowO 1 (by decide) [], rowO 1 (by decide) [], rowO 1 (by decide) (List.replicate z V.zero), rowO 1 (by decide) ZZ])] (h1 := fun Wx hSw => by (have hz := hSw.box (b := qa1526) (o := objZ) 0 rfl; refine useZ3 hz fun z0 z1 z2 y0 y1 y2 => ?_; go_simp; exact ⟨rfl, hSw.set3 0 rfl (.int .i64 4) (.int .i64 6) (.string ⟨#[]⟩)⟩)) (h2 := ?_) (hs := nilS)
                    simp only [Act.put, pa]; try dsimp only [List.set]
                    refine readyS [16] ?_
                    refine detS undef [boxW qa1526 4 6 ⟨#[]⟩, boxE qe1521, valsR (.slice (some ⟨q_22_1, 0, none⟩) z z) (List.replicate z V.zero), heapR h (HX [rowO 1 (by decide) (List.replicate k V.zero), rowO 1 (by decide) (List.replicate M V.zero), rowO 1 (by decide) [], rowO 1 (by decide) [], rowO 1 (by decide) (List.replicate z V.zero), rowO 1 (by decide) ZZ])] (h1 := fun Wx hSw => by (have hz := hSw.box (b := qe1521) (o := objE) 1 rfl; refine useZ5 hz fun z0 z1 z2 z3 z4 y0 y1 y2 y3 y4 => ?_; go_simp; exact ⟨rfl, hSw.set5 1 rfl (.string ⟨#[]⟩) (.int .i64 0) (.int .i64 0) (.string ⟨#[]⟩) (.bool false)⟩)) (h2 := ?_) (hs := nilS)
                    simp only [Act.put, pa]; try dsimp only [List.set]
                    refine doneS (h := fun w22 S => ?_)
                    go_wp2_with fail
                    go_meet
                    exact ⟨_, _, _, rfl, rfl, S⟩
                  exact nilS
                exact nilS
              refine allocS 0 rfl (fun q => .pointer (some ⟨q, 0, none⟩)) (.cells #[.int .i64 0, .int .i64 0, .string ⟨#[]⟩] 29) (h1 := fun Wx => by go_simp) (h2 := fun qa1530 => ?_) (hs := ?_)
              · simp only [Act.put, pa]; try dsimp only [List.set]
                try simp only [List.set_cons_zero, List.set_cons_succ]
                refine readyS [8, 14] ?_
                refine detS (.agg #[.int .i64 4, .int .i64 5, .string ⟨#[]⟩]) [boxZ qa1530, emptyR, valsR (.slice (some ⟨q_22_1, 0, none⟩) z z) (List.replicate z V.zero), heapR h (HX [rowO 1 (by decide) (List.replicate k V.zero), rowO 1 (by decide) (List.replicate M V.zero), rowO 1 (by decide) [], rowO 1 (by decide) [], rowO 1 (by decide) (List.replicate z V.zero)])] (h1 := fun Wx hSw => by (go_simp; refine symCall ?_; have hh := hSw.make 3 rfl (HG4.out.good (by simp)) (by decide) (rowO 1 (by decide) (List.replicate z V.zero)) (.slice (some ⟨q_22_1, 0, none⟩) z z) (hSw.seesV 2 rfl) (by show (List.replicate z V.zero).length ≤ 4194304; rw [List.length_replicate]; have := HZ.out; omega) rfl (show (1 : Int) ≤ 1 by decide) (show (1 : Int) ≤ 12 by decide); exact hh)) (h2 := ?_) (hs := ?_)
                · simp only [Act.put, pa]; try dsimp only [List.set]
                  refine readyS [9, 14] ?_
                  refine detS (.tuple #[.agg #[.int .i64 4, .int .i64 6, .string ⟨#[]⟩], excZ]) [boxZ qa1530, emptyR, valsR (.slice (some ⟨q_22_1, 0, none⟩) z z) (List.replicate z V.zero), heapR h (HX [rowO 1 (by decide) (List.replicate k V.zero), rowO 1 (by decide) (List.replicate M V.zero), rowO 1 (by decide) [], rowO 1 (by decide) [], rowO 1 (by decide) (List.replicate z V.zero), rowO 1 (by decide) ZZ])] (h1 := fun Wx hSw => by (go_simp; refine symCall ?_; exact bin_add_rows hSw 3 rfl (HG5.out.good (by simp)) (by decide) (vX 2 (by decide)) (vX 5 (by decide)) rfl rfl ZZ HZZ.out.symm (Nat.le_of_eq HZL.out))) (h2 := ?_) (hs := ?_)
                  · simp only [Act.put, pa]; try dsimp only [List.set]
                    refine quietS 10 ?_
                    simp only [Act.put, pa]; try dsimp only [List.set]
                    refine quietS 11 ?_
                    simp only [Act.put, pa]; try dsimp only [List.set]
                    refine quietS 12 ?_
                    simp only [Act.put, pa]; try dsimp only [List.set]
                    refine readyS [14] ?_
                    refine allocS 1 rfl (fun q => .pointer (some ⟨q, 0, none⟩)) (.cells #[.string ⟨#[]⟩, .int .i64 0, .int .i64 0, .string ⟨#[]⟩, .bool false] 38) (h1 := fun Wx => by go_simp) (h2 := fun qe1533 => ?_) (hs := nilS)
                    simp only [Act.put, pa]; try dsimp only [List.set]
                    try simp only [List.set_cons_zero, List.set_cons_succ]
                    refine readyS [15] ?_
                    refine detS undef [boxW qa1530 4 6 ⟨#[]⟩, boxE qe1533, valsR (.slice (some ⟨q_22_1, 0, none⟩) z z) (List.replicate z V.zero), heapR h (HX [rowO 1 (by decide) (List.replicate k V.zero), rowO 1 (by decide) (List.replicate M V.zero), rowO 1 (by decide) [], rowO 1 (by decide) [], rowO 1 (by decide) (List.replicate z V.zero), rowO 1 (by decide) ZZ])] (h1 := fun Wx hSw => by (have hz := hSw.box (b := qa1530) (o := objZ) 0 rfl; refine useZ3 hz fun z0 z1 z2 y0 y1 y2 => ?_; go_simp; exact ⟨rfl, hSw.set3 0 rfl (.int .i64 4) (.int .i64 6) (.string ⟨#[]⟩)⟩)) (h2 := ?_) (hs := nilS)
                    simp only [Act.put, pa]; try dsimp only [List.set]
                    refine readyS [16] ?_
                    refine detS undef [boxW qa1530 4 6 ⟨#[]⟩, boxE qe1533, valsR (.slice (some ⟨q_22_1, 0, none⟩) z z) (List.replicate z V.zero), heapR h (HX [rowO 1 (by decide) (List.replicate k V.zero), rowO 1 (by decide) (List.replicate M V.zero), rowO 1 (by decide) [], rowO 1 (by decide) [], rowO 1 (by decide) (List.replicate z V.zero), rowO 1 (by decide) ZZ])] (h1 := fun Wx hSw => by (have hz := hSw.box (b := qe1533) (o := objE) 1 rfl; refine useZ5 hz fun z0 z1 z2 z3 z4 y0 y1 y2 y3 y4 => ?_; go_simp; exact ⟨rfl, hSw.set5 1 rfl (.string ⟨#[]⟩) (.int .i64 0) (.int .i64 0) (.string ⟨#[]⟩) (.bool false)⟩)) (h2 := ?_) (hs := nilS)
                    simp only [Act.put, pa]; try dsimp only [List.set]
                    refine doneS (h := fun w22 S => ?_)
                    go_wp2_with fail
                    go_meet
                    exact ⟨_, _, _, rfl, rfl, S⟩
                  refine allocS 1 rfl (fun q => .pointer (some ⟨q, 0, none⟩)) (.cells #[.string ⟨#[]⟩, .int .i64 0, .int .i64 0, .string ⟨#[]⟩, .bool false] 38) (h1 := fun Wx => by go_simp) (h2 := fun qe1536 => ?_) (hs := ?_)
                  · simp only [Act.put, pa]; try dsimp only [List.set]
                    try simp only [List.set_cons_zero, List.set_cons_succ]
                    refine readyS [9] ?_
                    refine detS (.tuple #[.agg #[.int .i64 4, .int .i64 6, .string ⟨#[]⟩], excZ]) [boxZ qa1530, boxE qe1536, valsR (.slice (some ⟨q_22_1, 0, none⟩) z z) (List.replicate z V.zero), heapR h (HX [rowO 1 (by decide) (List.replicate k V.zero), rowO 1 (by decide) (List.replicate M V.zero), rowO 1 (by decide) [], rowO 1 (by decide) [], rowO 1 (by decide) (List.replicate z V.zero), rowO 1 (by decide) ZZ])] (h1 := fun Wx hSw => by (go_simp; refine symCall ?_; exact bin_add_rows hSw 3 rfl (HG5.out.good (by simp)) (by decide) (vX 2 (by decide)) (vX 5 (by decide)) rfl rfl ZZ HZZ.out.symm (Nat.le_of_eq HZL.out))) (h2 := ?_) (hs := nilS)
                    simp only [Act.put, pa]; try dsimp only [List.set]
                    refine quietS 10 ?_
                    simp only [Act.put, pa]; try dsimp only [List.set]
                    refine quietS 11 ?_
                    simp only [Act.put, pa]; try dsimp only [List.set]
                    refine quietS 12 ?_
                    simp only [Act.put, pa]; try dsimp only [List.set]
                    refine readyS [15] ?_
                    refine detS undef [boxW qa1530 4 6 ⟨#[]⟩, boxE qe1536, valsR (.slice (some ⟨q_22_1, 0, none⟩) z z) (List.replicate z V.zero), heapR h (HX [rowO 1 (by decide) (List.replicate k V.zero), rowO 1 (by decide) (List.replicate M V.zero), rowO 1 (by decide) [], rowO 1 (by decide) [], rowO 1 (by decide) (List.replicate z V.zero), rowO 1 (by decide) ZZ])] (h1 := fun Wx hSw => by (have hz := hSw.box (b := qa1530) (o := objZ) 0 rfl; refine useZ3 hz fun z0 z1 z2 y0 y1 y2 => ?_; go_simp; exact ⟨rfl, hSw.set3 0 rfl (.int .i64 4) (.int .i64 6) (.string ⟨#[]⟩)⟩)) (h2 := ?_) (hs := nilS)
                    simp only [Act.put, pa]; try dsimp only [List.set]
                    refine readyS [16] ?_
                    refine detS undef [boxW qa1530 4 6 ⟨#[]⟩, boxE qe1536, valsR (.slice (some ⟨q_22_1, 0, none⟩) z z) (List.replicate z V.zero), heapR h (HX [rowO 1 (by decide) (List.replicate k V.zero), rowO 1 (by decide) (List.replicate M V.zero), rowO 1 (by decide) [], rowO 1 (by decide) [], rowO 1 (by decide) (List.replicate z V.zero), rowO 1 (by decide) ZZ])] (h1 := fun Wx hSw => by (have hz := hSw.box (b := qe1536) (o := objE) 1 rfl; refine useZ5 hz fun z0 z1 z2 z3 z4 y0 y1 y2 y3 y4 => ?_; go_simp; exact ⟨rfl, hSw.set5 1 rfl (.string ⟨#[]⟩) (.int .i64 0) (.int .i64 0) (.string ⟨#[]⟩) (.bool false)⟩)) (h2 := ?_) (hs := nilS)
                    simp only [Act.put, pa]; try dsimp only [List.set]
                    refine doneS (h := fun w22 S => ?_)
                    go_wp2_with fail
                    go_meet
                    exact ⟨_, _, _, rfl, rfl, S⟩
                  exact nilS
                refine allocS 1 rfl (fun q => .pointer (some ⟨q, 0, none⟩)) (.cells #[.string ⟨#[]⟩, .int .i64 0, .int .i64 0, .string ⟨#[]⟩, .bool false] 38) (h1 := fun Wx => by go_simp) (h2 := fun qe1540 => ?_) (hs := ?_)
                · simp only [Act.put, pa]; try dsimp only [List.set]
                  try simp only [List.set_cons_zero, List.set_cons_succ]
                  refine readyS [8] ?_
                  refine detS (.agg #[.int .i64 4, .int .i64 5, .string ⟨#[]⟩]) [boxZ qa1530, boxE qe1540, valsR (.slice (some ⟨q_22_1, 0, none⟩) z z) (List.replicate z V.zero), heapR h (HX [rowO 1 (by decide) (List.replicate k V.zero), rowO 1 (by decide) (List.replicate M V.zero), rowO 1 (by decide) [], rowO 1 (by decide) [], rowO 1 (by decide) (List.replicate z V.zero)])] (h1 := fun Wx hSw => by (go_simp; refine symCall ?_; have hh := hSw.make 3 rfl (HG4.out.good (by simp)) (by decide) (rowO 1 (by decide) (List.replicate z V.zero)) (.slice (some ⟨q_22_1, 0, none⟩) z z) (hSw.seesV 2 rfl) (by show (List.replicate z V.zero).length ≤ 4194304; rw [List.length_replicate]; have := HZ.out; omega) rfl (show (1 : Int) ≤ 1 by decide) (show (1 : Int) ≤ 12 by decide); exact hh)) (h2 := ?_) (hs := nilS)
                  simp only [Act.put, pa]; try dsimp only [List.set]
                  refine readyS [9] ?_
                  refine detS (.tuple #[.agg #[.int .i64 4, .int .i64 6, .string ⟨#[]⟩], excZ]) [boxZ qa1530, boxE qe1540, valsR (.slice (some ⟨q_22_1, 0, none⟩) z z) (List.replicate z V.zero), heapR h (HX [rowO 1 (by decide) (List.replicate k V.zero), rowO 1 (by decide) (List.replicate M V.zero), rowO 1 (by decide) [], rowO 1 (by decide) [], rowO 1 (by decide) (List.replicate z V.zero), rowO 1 (by decide) ZZ])] (h1 := fun Wx hSw => by (go_simp; refine symCall ?_; exact bin_add_rows hSw 3 rfl (HG5.out.good (by simp)) (by decide) (vX 2 (by decide)) (vX 5 (by decide)) rfl rfl ZZ HZZ.out.symm (Nat.le_of_eq HZL.out))) (h2 := ?_) (hs := nilS)
                  simp only [Act.put, pa]; try dsimp only [List.set]
                  refine quietS 10 ?_
                  simp only [Act.put, pa]; try dsimp only [List.set]
                  refine quietS 11 ?_
                  simp only [Act.put, pa]; try dsimp only [List.set]
                  refine quietS 12 ?_
                  simp only [Act.put, pa]; try dsimp only [List.set]
                  refine readyS [15] ?_
                  refine detS undef [boxW qa1530 4 6 ⟨#[]⟩, boxE qe1540, valsR (.slice (some ⟨q_22_1, 0, none⟩) z z) (List.replicate z V.zero), heapR h (HX [rowO 1 (by decide) (List.replicate k V.zero), rowO 1 (by decide) (List.replicate M V.zero), rowO 1 (by decide) [], rowO 1 (by decide) [], rowO 1 (by decide) (List.replicate z V.zero), rowO 1 (by decide) ZZ])] (h1 := fun Wx hSw => by (have hz := hSw.box (b := qa1530) (o := objZ) 0 rfl; refine useZ3 hz fun z0 z1 z2 y0 y1 y2 => ?_; go_simp; exact ⟨rfl, hSw.set3 0 rfl (.int .i64 4) (.int .i64 6) (.string ⟨#[]⟩)⟩)) (h2 := ?_) (hs := nilS)
                  simp only [Act.put, pa]; try dsimp only [List.set]
                  refine readyS [16] ?_
                  refine detS undef [boxW qa1530 4 6 ⟨#[]⟩, boxE qe1540, valsR (.slice (some ⟨q_22_1, 0, none⟩) z z) (List.replicate z V.zero), heapR h (HX [rowO 1 (by decide) (List.replicate k V.zero), rowO 1 (by decide) (List.replicate M V.zero), rowO 1 (by decide) [], rowO 1 (by decide) [], rowO 1 (by decide) (List.replicate z V.zero), rowO 1 (by decide) ZZ])] (h1 := fun Wx hSw => by (have hz := hSw.box (b := qe1540) (o := objE) 1 rfl; refine useZ5 hz fun z0 z1 z2 z3 z4 y0 y1 y2 y3 y4 => ?_; go_simp; exact ⟨rfl, hSw.set5 1 rfl (.string ⟨#[]⟩) (.int .i64 0) (.int .i64 0) (.string ⟨#[]⟩) (.bool false)⟩)) (h2 := ?_) (hs := nilS)
                  simp only [Act.put, pa]; try dsimp only [List.set]
                  refine doneS (h := fun w22 S => ?_)
                  go_wp2_with fail
                  go_meet
                  exact ⟨_, _, _, rfl, rfl, S⟩
                exact nilS
              refine allocS 1 rfl (fun q => .pointer (some ⟨q, 0, none⟩)) (.cells #[.string ⟨#[]⟩, .int .i64 0, .int .i64 0, .string ⟨#[]⟩, .bool false] 38) (h1 := fun Wx => by go_simp) (h2 := fun qe1545 => ?_) (hs := ?_)
              · simp only [Act.put, pa]; try dsimp only [List.set]
                try simp only [List.set_cons_zero, List.set_cons_succ]
                refine readyS [8, 13] ?_
                refine detS (.agg #[.int .i64 4, .int .i64 5, .string ⟨#[]⟩]) [emptyR, boxE qe1545, valsR (.slice (some ⟨q_22_1, 0, none⟩) z z) (List.replicate z V.zero), heapR h (HX [rowO 1 (by decide) (List.replicate k V.zero), rowO 1 (by decide) (List.replicate M V.zero), rowO 1 (by decide) [], rowO 1 (by decide) [], rowO 1 (by decide) (List.replicate z V.zero)])] (h1 := fun Wx hSw => by (go_simp; refine symCall ?_; have hh := hSw.make 3 rfl (HG4.out.good (by simp)) (by decide) (rowO 1 (by decide) (List.replicate z V.zero)) (.slice (some ⟨q_22_1, 0, none⟩) z z) (hSw.seesV 2 rfl) (by show (List.replicate z V.zero).length ≤ 4194304; rw [List.length_replicate]; have := HZ.out; omega) rfl (show (1 : Int) ≤ 1 by decide) (show (1 : Int) ≤ 12 by decide); exact hh)) (h2 := ?_) (hs := ?_)
                · simp only [Act.put, pa]; try dsimp only [List.set]
                  refine readyS [9, 13] ?_
                  refine detS (.tuple #[.agg #[.int .i64 4, .int .i64 6, .string ⟨#[]⟩], excZ]) [emptyR, boxE qe1545, valsR (.slice (some ⟨q_22_1, 0, none⟩) z z) (List.replicate z V.zero), heapR h (HX [rowO 1 (by decide) (List.replicate k V.zero), rowO 1 (by decide) (List.replicate M V.zero), rowO 1 (by decide) [], rowO 1 (by decide) [], rowO 1 (by decide) (List.replicate z V.zero), rowO 1 (by decide) ZZ])] (h1 := fun Wx hSw => by (go_simp; refine symCall ?_; exact bin_add_rows hSw 3 rfl (HG5.out.good (by simp)) (by decide) (vX 2 (by decide)) (vX 5 (by decide)) rfl rfl ZZ HZZ.out.symm (Nat.le_of_eq HZL.out))) (h2 := ?_) (hs := ?_)
                  · simp only [Act.put, pa]; try dsimp only [List.set]
                    refine quietS 10 ?_
                    simp only [Act.put, pa]; try dsimp only [List.set]
                    refine quietS 11 ?_
                    simp only [Act.put, pa]; try dsimp only [List.set]
                    refine quietS 12 ?_
                    simp only [Act.put, pa]; try dsimp only [List.set]
                    refine readyS [13] ?_
                    refine allocS 0 rfl (fun q => .pointer (some ⟨q, 0, none⟩)) (.cells #[.int .i64 0, .int .i64 0, .string ⟨#[]⟩] 29) (h1 := fun Wx => by go_simp) (h2 := fun qa1548 => ?_) (hs := nilS)
                    simp only [Act.put, pa]; try dsimp only [List.set]
                    try simp only [List.set_cons_zero, List.set_cons_succ]
                    refine readyS [15] ?_
                    refine detS undef [boxW qa1548 4 6 ⟨#[]⟩, boxE qe1545, valsR (.slice (some ⟨q_22_1, 0, none⟩) z z) (List.replicate z V.zero), heapR h (HX [rowO 1 (by decide) (List.replicate k V.zero), rowO 1 (by decide) (List.replicate M V.zero), rowO 1 (by decide) [], rowO 1 (by decide) [], rowO 1 (by decide) (List.replicate z V.zero), rowO 1 (by decide) ZZ])] (h1 := fun Wx hSw => by (have hz := hSw.box (b := qa1548) (o := objZ) 0 rfl; refine useZ3 hz fun z0 z1 z2 y0 y1 y2 => ?_; go_simp; exact ⟨rfl, hSw.set3 0 rfl (.int .i64 4) (.int .i64 6) (.string ⟨#[]⟩)⟩)) (h2 := ?_) (hs := nilS)
                    simp only [Act.put, pa]; try dsimp only [List.set]
                    refine readyS [16] ?_
                    refine detS undef [boxW qa1548 4 6 ⟨#[]⟩, boxE qe1545, valsR (.slice (some ⟨q_22_1, 0, none⟩) z z) (List.replicate z V.zero), heapR h (HX [rowO 1 (by decide) (List.replicate k V.zero), rowO 1 (by decide) (List.replicate M V.zero), rowO 1 (by decide) [], rowO 1 (by decide) [], rowO 1 (by decide) (List.replicate z V.zero), rowO 1 (by decide) ZZ])] (h1 := fun Wx hSw => by (have hz := hSw.box (b := qe1545) (o := objE) 1 rfl; refine useZ5 hz fun z0 z1 z2 z3 z4 y0 y1 y2 y3 y4 => ?_; go_simp; exact ⟨rfl, hSw.set5 1 rfl (.string ⟨#[]⟩) (.int .i64 0) (.int .i64 0) (.string ⟨#[]⟩) (.bool false)⟩)) (h2 := ?_) (hs := nilS)
                    simp only [Act.put, pa]; try dsimp only [List.set]
                    refine doneS (h := fun w22 S => ?_)
                    go_wp2_with fail
                    go_meet
                    exact ⟨_, _, _, rfl, rfl, S⟩
                  refine allocS 0 rfl (fun q => .pointer (some ⟨q, 0, none⟩)) (.cells #[.int .i64 0, .int .i64 0, .string ⟨#[]⟩] 29) (h1 := fun Wx => by go_simp) (h2 := fun qa1551 => ?_) (hs := ?_)
                  · simp only [Act.put, pa]; try dsimp only [List.set]
                    try simp only [List.set_cons_zero, List.set_cons_succ]
                    refine readyS [9] ?_
                    refine detS (.tuple #[.agg #[.int .i64 4, .int .i64 6, .string ⟨#[]⟩], excZ]) [boxZ qa1551, boxE qe1545, valsR (.slice (some ⟨q_22_1, 0, none⟩) z z) (List.replicate z V.zero), heapR h (HX [rowO 1 (by decide) (List.replicate k V.zero), rowO 1 (by decide) (List.replicate M V.zero), rowO 1 (by decide) [], rowO 1 (by decide) [], rowO 1 (by decide) (List.replicate z V.zero), rowO 1 (by decide) ZZ])] (h1 := fun Wx hSw => by (go_simp; refine symCall ?_; exact bin_add_rows hSw 3 rfl (HG5.out.good (by simp)) (by decide) (vX 2 (by decide)) (vX 5 (by decide)) rfl rfl ZZ HZZ.out.symm (Nat.le_of_eq HZL.out))) (h2 := ?_) (hs := nilS)
                    simp only [Act.put, pa]; try dsimp only [List.set]
                    refine quietS 10 ?_
                    simp only [Act.put, pa]; try dsimp only [List.set]
                    refine quietS 11 ?_
                    simp only [Act.put, pa]; try dsimp only [List.set]
                    refine quietS 12 ?_
                    simp only [Act.put, pa]; try dsimp only [List.set]
                    refine readyS [15] ?_
                    refine detS undef [boxW qa1551 4 6 ⟨#[]⟩, boxE qe1545, valsR (.slice (some ⟨q_22_1, 0, none⟩) z z) (List.replicate z V.zero), heapR h (HX [rowO 1 (by decide) (List.replicate k V.zero), rowO 1 (by decide) (List.replicate M V.zero), rowO 1 (by decide) [], rowO 1 (by decide) [], rowO 1 (by decide) (List.replicate z V.zero), rowO 1 (by decide) ZZ])] (h1 := fun Wx hSw => by (have hz := hSw.box (b := qa1551) (o := objZ) 0 rfl; refine useZ3 hz fun z0 z1 z2 y0 y1 y2 => ?_; go_simp; exact ⟨rfl, hSw.set3 0 rfl (.int .i64 4) (.int .i64 6) (.string ⟨#[]⟩)⟩)) (h2 := ?_) (hs := nilS)
                    simp only [Act.put, pa]; try dsimp only [List.set]
                    refine readyS [16] ?_
                    refine detS undef [boxW qa1551 4 6 ⟨#[]⟩, boxE qe1545, valsR (.slice (some ⟨q_22_1, 0, none⟩) z z) (List.replicate z V.zero), heapR h (HX [rowO 1 (by decide) (List.replicate k V.zero), rowO 1 (by decide) (List.replicate M V.zero), rowO 1 (by decide) [], rowO 1 (by decide) [], rowO 1 (by decide) (List.replicate z V.zero), rowO 1 (by decide) ZZ])] (h1 := fun Wx hSw => by (have hz := hSw.box (b := qe1545) (o := objE) 1 rfl; refine useZ5 hz fun z0 z1 z2 z3 z4 y0 y1 y2 y3 y4 => ?_; go_simp; exact ⟨rfl, hSw.set5 1 rfl (.string ⟨#[]⟩) (.int .i64 0) (.int .i64 0) (.string ⟨#[]⟩) (.bool false)⟩)) (h2 := ?_) (hs := nilS)
                    simp only [Act.put, pa]; try dsimp only [List.set]
                    refine doneS (h := fun w22 S => ?_)
                    go_wp2_with fail
                    go_meet
                    exact ⟨_, _, _, rfl, rfl, S⟩
                  exact nilS
                refine allocS 0 rfl (fun q => .pointer (some ⟨q, 0, none⟩)) (.cells #[.int .i64 0, .int .i64 0, .string ⟨#[]⟩] 29) (h1 := fun Wx => by go_simp) (h2 := fun qa1555 => ?_) (hs := ?_)
                · simp only [Act.put, pa]; try dsimp only [List.set]
                  try simp only [List.set_cons_zero, List.set_cons_succ]
                  refine readyS [8] ?_
                  refine detS (.agg #[.int .i64 4, .int .i64 5, .string ⟨#[]⟩]) [boxZ qa1555, boxE qe1545, valsR (.slice (some ⟨q_22_1, 0, none⟩) z z) (List.replicate z V.zero), heapR h (HX [rowO 1 (by decide) (List.replicate k V.zero), rowO 1 (by decide) (List.replicate M V.zero), rowO 1 (by decide) [], rowO 1 (by decide) [], rowO 1 (by decide) (List.replicate z V.zero)])] (h1 := fun Wx hSw => by (go_simp; refine symCall ?_; have hh := hSw.make 3 rfl (HG4.out.good (by simp)) (by decide) (rowO 1 (by decide) (List.replicate z V.zero)) (.slice (some ⟨q_22_1, 0, none⟩) z z) (hSw.seesV 2 rfl) (by show (List.replicate z V.zero).length ≤ 4194304; rw [List.length_replicate]; have := HZ.out; omega) rfl (show (1 : Int) ≤ 1 by decide) (show (1 : Int) ≤ 12 by decide); exact hh)) (h2 := ?_) (hs := nilS)
                  simp only [Act.put, pa]; try dsimp only [List.set]
                  refine readyS [9] ?_
                  refine detS (.tuple #[.agg #[.int .i64 4, .int .i64 6, .string ⟨#[]⟩], excZ]) [boxZ qa1555, boxE qe1545, valsR (.slice (some ⟨q_22_1, 0, none⟩) z z) (List.replicate z V.zero), heapR h (HX [rowO 1 (by decide) (List.replicate k V.zero), rowO 1 (by decide) (List.replicate M V.zero), rowO 1 (by decide) [], rowO 1 (by decide) [], rowO 1 (by decide) (List.replicate z V.zero), rowO 1 (by decide) ZZ])] (h1 := fun Wx hSw => by (go_simp; refine symCall ?_; exact bin_add_rows hSw 3 rfl (HG5.out.good (by simp)) (by decide) (vX 2 (by decide)) (vX 5 (by decide)) rfl rfl ZZ HZZ.out.symm (Nat.le_of_eq HZL.out))) (h2 := ?_) (hs := nilS)
                  simp only [Act.put, pa]; try dsimp only [List.set]
                  refine quietS 10 ?_
                  simp only [Act.put, pa]; try dsimp only [List.set]
                  refine quietS 11 ?_
                  simp only [Act.put, pa]; try dsimp only [List.set]
                  refine quietS 12 ?_
                  simp only [Act.put, pa]; try dsimp only [List.set]
                  refine readyS [15] ?_
                  refine detS undef [boxW qa1555 4 6 ⟨#[]⟩, boxE qe1545, valsR (.slice (some ⟨q_22_1, 0, none⟩) z z) (List.replicate z V.zero), heapR h (HX [rowO 1 (by decide) (List.replicate k V.zero), rowO 1 (by decide) (List.replicate M V.zero), rowO 1 (by decide) [], rowO 1 (by decide) [], rowO 1 (by decide) (List.replicate z V.zero), rowO 1 (by decide) ZZ])] (h1 := fun Wx hSw => by (have hz := hSw.box (b := qa1555) (o := objZ) 0 rfl; refine useZ3 hz fun z0 z1 z2 y0 y1 y2 => ?_; go_simp; exact ⟨rfl, hSw.set3 0 rfl (.int .i64 4) (.int .i64 6) (.string ⟨#[]⟩)⟩)) (h2 := ?_) (hs := nilS)
                  simp only [Act.put, pa]; try dsimp only [List.set]
                  refine readyS [16] ?_
                  refine detS undef [boxW qa1555 4 6 ⟨#[]⟩, boxE qe1545, valsR (.slice (some ⟨q_22_1, 0, none⟩) z z) (List.replicate z V.zero), heapR h (HX [rowO 1 (by decide) (List.replicate k V.zero), rowO 1 (by decide) (List.replicate M V.zero), rowO 1 (by decide) [], rowO 1 (by decide) [], rowO 1 (by decide) (List.replicate z V.zero), rowO 1 (by decide) ZZ])] (h1 := fun Wx hSw => by (have hz := hSw.box (b := qe1545) (o := objE) 1 rfl; refine useZ5 hz fun z0 z1 z2 z3 z4 y0 y1 y2 y3 y4 => ?_; go_simp; exact ⟨rfl, hSw.set5 1 rfl (.string ⟨#[]⟩) (.int .i64 0) (.int .i64 0) (.string ⟨#[]⟩) (.bool false)⟩)) (h2 := ?_) (hs := nilS)
                  simp only [Act.put, pa]; try dsimp only [List.set]
                  refine doneS (h := fun w22 S => ?_)
                  go_wp2_with fail
                  go_meet
                  exact ⟨_, _, _, rfl, rfl, S⟩
                exact nilS
              exact nilS
            refine allocS 0 rfl (fun q => .pointer (some ⟨q, 0, none⟩)) (.cells #[.int .i64 0, .int .i64 0, .string ⟨#[]⟩] 29) (h1 := fun Wx => by go_simp) (h2 := fun qa1560 => ?_) (hs := ?_)
            · simp only [Act.put, pa]; try dsimp only [List.set]
              try simp only [List.set_cons_zero, List.set_cons_succ]
              refine readyS [7, 14] ?_
              refine stepS (fun v E1 => ∃ (q_22_61 : Nat), v = .slice (some ⟨q_22_61, 0, none⟩) z z ∧ E1 = [boxZ qa1560, emptyR, valsR (.slice (some ⟨q_22_61, 0, none⟩) z z) (List.replicate z V.zero), heapR h (HX [rowO 1 (by decide) (List.replicate k V.zero), rowO 1 (by decide) (List.replicate M V.zero), rowO 1 (by decide) [], rowO 1 (by decide) []])]) (h1 := fun Wx hSw => by (obtain ⟨g, w2, hr, S2⟩ := Sep.makeV hSw z (by have := HZ.out; omega); exact symMake _ _ _ rfl _ _ rfl rfl hr ⟨_, ⟨_, rfl, rfl⟩, S2.into 2 rfl⟩)) (h2 := fun v E1 hvE => ?_) (hs := ?_)
              · obtain ⟨q_22_61, rfl, rfl⟩ := hvE
                simp only [Act.put, pa]; try dsimp only [List.set]
                refine readyS [8, 14] ?_
                refine detS (.agg #[.int .i64 4, .int .i64 5, .string ⟨#[]⟩]) [boxZ qa1560, emptyR, valsR (.slice (some ⟨q_22_61, 0, none⟩) z z) (List.replicate z V.zero), heapR h (HX [rowO 1 (by decide) (List.replicate k V.zero), rowO 1 (by decide) (List.replicate M V.zero), rowO 1 (by decide) [], rowO 1 (by decide) [], rowO 1 (by decide) (List.replicate z V.zero)])] (h1 := fun Wx hSw => by (go_simp; refine symCall ?_; have hh := hSw.make 3 rfl (HG4.out.good (by simp)) (by decide) (rowO 1 (by decide) (List.replicate z V.zero)) (.slice (some ⟨q_22_61, 0, none⟩) z z) (hSw.seesV 2 rfl) (by show (List.replicate z V.zero).length ≤ 4194304; rw [List.length_replicate]; have := HZ.out; omega) rfl (show (1 : Int) ≤ 1 by decide) (show (1 : Int) ≤ 12 by decide); exact hh)) (h2 := ?_) (hs := ?_)
                · simp only [Act.put, pa]; try dsimp only [List.set]
                  refine readyS [9, 14] ?_
                  refine detS (.tuple #[.agg #[.int .i64 4, .int .i64 6, .string ⟨#[]⟩], excZ]) [boxZ qa1560, emptyR, valsR (.slice (some ⟨q_22_61, 0, none⟩) z z) (List.replicate z V.zero), heapR h (HX [rowO 1 (by decide) (List.replicate k V.zero), rowO 1 (by decide) (List.replicate M V.zero), rowO 1 (by decide) [], rowO 1 (by decide) [], rowO 1 (by decide) (List.replicate z V.zero), rowO 1 (by decide) ZZ])] (h1 := fun Wx hSw => by (go_simp; refine symCall ?_; exact bin_add_rows hSw 3 rfl (HG5.out.good (by simp)) (by decide) (vX 2 (by decide)) (vX 5 (by decide)) rfl rfl ZZ HZZ.out.symm (Nat.le_of_eq HZL.out))) (h2 := ?_) (hs := ?_)
                  · simp only [Act.put, pa]; try dsimp only [List.set]
                    refine quietS 10 ?_
                    simp only [Act.put, pa]; try dsimp only [List.set]
                    refine quietS 11 ?_
                    simp only [Act.put, pa]; try dsimp only [List.set]
                    refine quietS 12 ?_
                    simp only [Act.put, pa]; try dsimp only [List.set]
                    refine readyS [14] ?_
                    refine allocS 1 rfl (fun q => .pointer (some ⟨q, 0, none⟩)) (.cells #[.string ⟨#[]⟩, .int .i64 0, .int .i64 0, .string ⟨#[]⟩, .bool false] 38) (h1 := fun Wx => by go_simp) (h2 := fun qe1564 => ?_) (hs := nilS)
                    simp only [Act.put, pa]; try dsimp only [List.set]
                    try simp only [List.set_cons_zero, List.set_cons_succ]
                    refine readyS [15] ?_
                    refine detS undef [boxW qa1560 4 6 ⟨#[]⟩, boxE qe1564, valsR (.slice (some ⟨q_22_61, 0, none⟩) z z) (List.replicate z V.zero), heapR h (HX [rowO 1 (by decide) (List.replicate k V.zero), rowO 1 (by decide) (List.replicate M V.zero), rowO 1 (by decide) [], rowO 1 (by decide) [], rowO 1 (by decide) (List.replicate z V.zero), rowO 1 (by decide) ZZ])] (h1 := fun Wx hSw => by (have hz := hSw.box (b := qa1560) (o := objZ) 0 rfl; refine useZ3 hz fun z0 z1 z2 y0 y1 y2 => ?_; go_simp; exact ⟨rfl, hSw.set3 0 rfl (.int .i64 4) (.int .i64 6) (.string ⟨#[]⟩)⟩)) (h2 := ?_) (hs := nilS)
                    simp only [Act.put, pa]; try dsimp only [List.set]
                    refine readyS [16] ?_
                    refine detS undef [boxW qa1560 4 6 ⟨#[]⟩, boxE qe1564, valsR (.slice (some ⟨q_22_61, 0, none⟩) z z) (List.replicate z V.zero), heapR h (HX [rowO 1 (by decide) (List.replicate k V.zero), rowO 1 (by decide) (List.replicate M V.zero), rowO 1 (by decide) [], rowO 1 (by decide) [], rowO 1 (by decide) (List.replicate z V.zero), rowO 1 (by decide) ZZ])] (h1 := fun Wx hSw => by (have hz := hSw.box (b := qe1564) (o := objE) 1 rfl; refine useZ5 hz fun z0 z1 z2 z3 z4 y0 y1 y2 y3 y4 => ?_; go_simp; exact ⟨rfl, hSw.set5 1 rfl (.string ⟨#[]⟩) (.int .i64 0) (.int .i64 0) (.string ⟨#[]⟩) (.bool false)⟩)) (h2 := ?_) (hs := nilS)
                    simp only [Act.put, pa]; try dsimp only [List.set]
                    refine doneS (h := fun w22 S => ?_)
                    go_wp2_with fail
                    go_meet
                    exact ⟨_, _, _, rfl, rfl, S⟩
                  refine allocS 1 rfl (fun q => .pointer (some ⟨q, 0, none⟩)) (.cells #[.string ⟨#[]⟩, .int .i64 0, .int .i64 0, .string ⟨#[]⟩, .bool false] 38) (h1 := fun Wx => by go_simp) (h2 := fun qe1567 => ?_) (hs := ?_)
                  · simp only [Act.put, pa]; try dsimp only [List.set]
                    try simp only [List.set_cons_zero, List.set_cons_succ]
                    refine readyS [9] ?_
                    refine detS (.tuple #[.agg #[.int .i64 4, .int .i64 6, .string ⟨#[]⟩], excZ]) [boxZ qa1560, boxE qe1567, valsR (.slice (some ⟨q_22_61, 0, none⟩) z z) (List.replicate z V.zero), heapR h (HX [rowO 1 (by decide) (List.replicate k V.zero), rowO 1 (by decide) (List.replicate M V.zero), rowO 1 (by decide) [], rowO 1 (by decide) [], rowO 1 (by decide) (List.replicate z V.zero), rowO 1 (by decide) ZZ])] (h1 := fun Wx hSw => by (go_simp; refine symCall ?_; exact bin_add_rows hSw 3 rfl (HG5.out.good (by simp)) (by decide) (vX 2 (by decide)) (vX 5 (by decide)) rfl rfl ZZ HZZ.out.symm (Nat.le_of_eq HZL.out))) (h2 := ?_) (hs := nilS)
                    simp only [Act.put, pa]; try dsimp only [List.set]
                    refine quietS 10 ?_
                    simp only [Act.put, pa]; try dsimp only [List.set]
                    refine quietS 11 ?_
                    simp only [Act.put, pa]; try dsimp only [List.set]
                    refine quietS 12 ?_
                    simp only [Act.put, pa]; try dsimp only [List.set]
                    refine readyS [15] ?_
                    refine detS undef [boxW qa1560 4 6 ⟨#[]⟩, boxE qe1567, valsR (.slice (some ⟨q_22_61, 0, none⟩) z z) (List.replicate z V.zero), heapR h (HX [rowO 1 (by decide) (List.replicate k V.zero), rowO 1 (by decide) (List.replicate M V.zero), rowO 1 (by decide) [], rowO 1 (by decide) [], rowO 1 (by decide) (List.replicate z V.zero), rowO 1 (by decide) ZZ])] (h1 := fun Wx hSw => by (have hz := hSw.box (b := qa1560) (o := objZ) 0 rfl; refine useZ3 hz fun z0 z1 z2 y0 y1 y2 => ?_; go_simp; exact ⟨rfl, hSw.set3 0 rfl (.int .i64 4) (.int .i64 6) (.string ⟨#[]⟩)⟩)) (h2 := ?_) (hs := nilS)
                    simp only [Act.put, pa]; try dsimp only [List.set]
                    refine readyS [16] ?_
                    refine detS undef [boxW qa1560 4 6 ⟨#[]⟩, boxE qe1567, valsR (.slice (some ⟨q_22_61, 0, none⟩) z z) (List.replicate z V.zero), heapR h (HX [rowO 1 (by decide) (List.replicate k V.zero), rowO 1 (by decide) (List.replicate M V.zero), rowO 1 (by decide) [], rowO 1 (by decide) [], rowO 1 (by decide) (List.replicate z V.zero), rowO 1 (by decide) ZZ])] (h1 := fun Wx hSw => by (have hz := hSw.box (b := qe1567) (o := objE) 1 rfl; refine useZ5 hz fun z0 z1 z2 z3 z4 y0 y1 y2 y3 y4 => ?_; go_simp; exact ⟨rfl, hSw.set5 1 rfl (.string ⟨#[]⟩) (.int .i64 0) (.int .i64 0) (.string ⟨#[]⟩) (.bool false)⟩)) (h2 := ?_) (hs := nilS)
                    simp only [Act.put, pa]; try dsimp only [List.set]
                    refine doneS (h := fun w22 S => ?_)
                    go_wp2_with fail
                    go_meet
                    exact ⟨_, _, _, rfl, rfl, S⟩
                  exact nilS
                refine allocS 1 rfl (fun q => .pointer (some ⟨q, 0, none⟩)) (.cells #[.string ⟨#[]⟩, .int .i64 0, .int .i64 0, .string ⟨#[]⟩, .bool false] 38) (h1 := fun Wx => by go_simp) (h2 := fun qe1571 => ?_) (hs := ?_)
                · simp only [Act.put, pa]; try dsimp only [List.set]
                  try simp only [List.set_cons_zero, List.set_cons_succ]
                  refine readyS [8] ?_
                  refine detS (.agg #[.int .i64 4, .int .i64 5, .string ⟨#[]⟩]) [boxZ qa1560, boxE qe1571, valsR (.slice (some ⟨q_22_61, 0, none⟩) z z) (List.replicate z V.zero), heapR h (HX [rowO 1 (by decide) (List.replicate k V.zero), rowO 1 (by decide) (List.replicate M V.zero), rowO 1 (by decide) [], rowO 1 (by decide) [], rowO 1 (by decide) (List.replicate z V.zero)])] (h1 := fun Wx hSw => by (go_simp; refine symCall ?_; have hh := hSw.make 3 rfl (HG4.out.good (by simp)) (by decide) (rowO 1 (by decide) (List.replicate z V.zero)) (.slice (some ⟨q_22_61, 0, none⟩) z z) (hSw.seesV 2 rfl) (by show (List.replicate z V.zero).length ≤ 4194304; rw [List.length_replicate]; have := HZ.out; omega) rfl (show (1 : Int) ≤ 1 by decide) (show (1 : Int) ≤ 12 by decide); exact hh)) (h2 := ?_) (hs := nilS)
                  simp only [Act.put, pa]; try dsimp only [List.set]
                  refine readyS [9] ?_
                  refine detS (.tuple #[.agg #[.int .i64 4, .int .i64 6, .string ⟨#[]⟩], excZ]) [boxZ qa1560, boxE qe1571, valsR (.slice (some ⟨q_22_61, 0, none⟩) z z) (List.replicate z V.zero), heapR h (HX [rowO 1 (by decide) (List.replicate k V.zero), rowO 1 (by decide) (List.replicate M V.zero), rowO 1 (by decide) [], rowO 1 (by decide) [], rowO 1 (by decide) (List.replicate z V.zero), rowO 1 (by decide) ZZ])] (h1 := fun Wx hSw => by (go_simp; refine symCall ?_; exact bin_add_rows hSw 3 rfl (HG5.out.good (by simp)) (by decide) (vX 2 (by decide)) (vX 5 (by decide)) rfl rfl ZZ HZZ.out.symm (Nat.le_of_eq HZL.out))) (h2 := ?_) (hs := nilS)
                  simp only [Act.put, pa]; try dsimp only [List.set]
                  refine quietS 10 ?_
                  simp only [Act.put, pa]; try dsimp only [List.set]
                  refine quietS 11 ?_
                  simp only [Act.put, pa]; try dsimp only [List.set]
                  refine quietS 12 ?_
                  simp only [Act.put, pa]; try dsimp only [List.set]
                  refine readyS [15] ?_
                  refine detS undef [boxW qa1560 4 6 ⟨#[]⟩, boxE qe1571, valsR (.slice (some ⟨q_22_61, 0, none⟩) z z) (List.replicate z V.zero), heapR h (HX [rowO 1 (by decide) (List.replicate k V.zero), rowO 1 (by decide) (List.replicate M V.zero), rowO 1 (by decide) [], rowO 1 (by decide) [], rowO 1 (by decide) (List.replicate z V.zero), rowO 1 (by decide) ZZ])] (h1 := fun Wx hSw => by (have hz := hSw.box (b := qa1560) (o := objZ) 0 rfl; refine useZ3 hz fun z0 z1 z2 y0 y1 y2 => ?_; go_simp; exact ⟨rfl, hSw.set3 0 rfl (.int .i64 4) (.int .i64 6) (.string ⟨#[]⟩)⟩)) (h2 := ?_) (hs := nilS)
                  simp only [Act.put, pa]; try dsimp only [List.set]
                  refine readyS [16] ?_
                  refine detS undef [boxW qa1560 4 6 ⟨#[]⟩, boxE qe1571, valsR (.slice (some ⟨q_22_61, 0, none⟩) z z) (List.replicate z V.zero), heapR h (HX [rowO 1 (by decide) (List.replicate k V.zero), rowO 1 (by decide) (List.replicate M V.zero), rowO 1 (by decide) [], rowO 1 (by decide) [], rowO 1 (by decide) (List.replicate z V.zero), rowO 1 (by decide) ZZ])] (h1 := fun Wx hSw => by (have hz := hSw.box (b := qe1571) (o := objE) 1 rfl; refine useZ5 hz fun z0 z1 z2 z3 z4 y0 y1 y2 y3 y4 => ?_; go_simp; exact ⟨rfl, hSw.set5 1 rfl (.string ⟨#[]⟩) (.int .i64 0) (.int .i64 0) (.string ⟨#[]⟩) (.bool false)⟩)) (h2 := ?_) (hs := nilS)
                  simp only [Act.put, pa]; try dsimp only [List.set]
                  refine doneS (h := fun w22 S => ?_)
                  go_wp2_with fail
                  go_meet
                  exact ⟨_, _, _, rfl, rfl, S⟩
                exact nilS
              refine allocS 1 rfl (fun q => .pointer (some ⟨q, 0, none⟩)) (.cells #[.string ⟨#[]⟩, .int .i64 0, .int .i64 0, .string ⟨#[]⟩, .bool false] 38) (h1 := fun Wx => by go_simp) (h2 := fun qe1576 => ?_) (hs := ?_)
              · simp only [Act.put, pa]; try dsimp only [List.set]
                try simp only [List.set_cons_zero, List.set_cons_succ]
                refine readyS [7] ?_
                refine stepS (fun v E1 => ∃ (q_22_77 : Nat), v = .slice (some ⟨q_22_77, 0, none⟩) z z ∧ E1 = [boxZ qa1560, boxE qe1576, valsR (.slice (some ⟨q_22_77, 0, none⟩) z z) (List.replicate z V.zero), heapR h (HX [rowO 1 (by decide) (List.replicate k V.zero), rowO 1 (by decide) (List.replicate M V.zero), rowO 1 (by decide) [], rowO 1 (by decide) []])]) (h1 := fun Wx hSw => by (obtain ⟨g, w2, hr, S2⟩ := Sep.makeV hSw z (by have := HZ.out; omega); exact symMake _ _ _ rfl _ _ rfl rfl hr ⟨_, ⟨_, rfl, rfl⟩, S2.into 2 rfl⟩)) (h2 := fun v E1 hvE => ?_) (hs := nilS)
                obtain ⟨q_22_77, rfl, rfl⟩ := hvE
                simp only [Act.put, pa]; try dsimp only [List.set]
                refine readyS [8] ?_
                refine detS (.agg #[.int .i64 4, .int .i64 5, .string ⟨#[]⟩]) [boxZ qa1560, boxE qe1576, valsR (.slice (some ⟨q_22_77, 0, none⟩) z z) (List.replicate z V.zero), heapR h (HX [rowO 1 (by decide) (List.replicate k V.zero), rowO 1 (by decide) (List.replicate M V.zero), rowO 1 (by decide) [], rowO 1 (by decide) [], rowO 1 (by decide) (List.replicate z V.zero)])] (h1 := fun Wx hSw => by (go_simp; refine symCall ?_; have hh := hSw.make 3 rfl (HG4.out.good (by simp)) (by decide) (rowO 1 (by decide) (List.replicate z V.zero)) (.slice (some ⟨q_22_77, 0, none⟩) z z) (hSw.seesV 2 rfl) (by show (List.replicate z V.zero).length ≤ 4194304; rw [List.length_replicate]; have := HZ.out; omega) rfl (show (1 : Int) ≤ 1 by decide) (show (1 : Int) ≤ 12 by decide); exact hh)) (h2 := ?_) (hs := nilS)
                simp only [Act.put, pa]; try dsimp only [List.set]
                refine readyS [9] ?_
                refine detS (.tuple #[.agg #[.int .i64 4, .int .i64 6, .string ⟨#[]⟩], excZ]) [boxZ qa1560, boxE qe1576, valsR (.slice (some ⟨q_22_77, 0, none⟩) z z) (List.replicate z V.zero), heapR h (HX [rowO 1 (by decide) (List.replicate k V.zero), rowO 1 (by decide) (List.replicate M V.zero), rowO 1 (by decide) [], rowO 1 (by decide) [], rowO 1 (by decide) (List.replicate z V.zero), rowO 1 (by decide) ZZ])] (h1 := fun Wx hSw => by (go_simp; refine symCall ?_; exact bin_add_rows hSw 3 rfl (HG5.out.good (by simp)) (by decide) (vX 2 (by decide)) (vX 5 (by decide)) rfl rfl ZZ HZZ.out.symm (Nat.le_of_eq HZL.out))) (h2 := ?_) (hs := nilS)
                simp only [Act.put, pa]; try dsimp only [List.set]
                refine quietS 10 ?_
                simp only [Act.put, pa]; try dsimp only [List.set]
                refine quietS 11 ?_
                simp only [Act.put, pa]; try dsimp only [List.set]
                refine quietS 12 ?_
                simp only [Act.put, pa]; try dsimp only [List.set]
                refine readyS [15] ?_
                refine detS undef [boxW qa1560 4 6 ⟨#[]⟩, boxE qe1576, valsR (.slice (some ⟨q_22_77, 0, none⟩) z z) (List.replicate z V.zero), heapR h (HX [rowO 1 (by decide) (List.replicate k V.zero), rowO 1 (by decide) (List.replicate M V.zero), rowO 1 (by decide) [], rowO 1 (by decide) [], rowO 1 (by decide) (List.replicate z V.zero), rowO 1 (by decide) ZZ])] (h1 := fun Wx hSw => by (have hz := hSw.box (b := qa1560) (o := objZ) 0 rfl; refine useZ3 hz fun z0 z1 z2 y0 y1 y2 => ?_; go_simp; exact ⟨rfl, hSw.set3 0 rfl (.int .i64 4) (.int .i64 6) (.string ⟨#[]⟩)⟩)) (h2 := ?_) (hs := nilS)
                simp only [Act.put, pa]; try dsimp only [List.set]
                refine readyS [16] ?_
                refine detS undef [boxW qa1560 4 6 ⟨#[]⟩, boxE qe1576, valsR (.slice (some ⟨q_22_77, 0, none⟩) z z) (List.replicate z V.zero), heapR h (HX [rowO 1 (by decide) (List.replicate k V.zero), rowO 1 (by decide) (List.replicate M V.zero), rowO 1 (by decide) [], rowO 1 (by decide) [], rowO 1 (by decide) (List.replicate z V.zero), rowO 1 (by decide) ZZ])] (h1 := fun Wx hSw => by (have hz := hSw.box (b := qe1576) (o := objE) 1 rfl; refine useZ5 hz fun z0 z1 z2 z3 z4 y0 y1 y2 y3 y4 => ?_; go_simp; exact ⟨rfl, hSw.set5 1 rfl (.string ⟨#[]⟩) (.int .i64 0) (.int .i64 0) (.string ⟨#[]⟩) (.bool false)⟩)) (h2 := ?_) (hs := nilS)
                simp only [Act.put, pa]; try dsimp only [List.set]
                refine doneS (h := fun w22 S => ?_)
                go_wp2_with fail
                go_meet
                exact ⟨_, _, _, rfl, rfl, S⟩
              exact nilS
            refine allocS 1 rfl (fun q => .pointer (some ⟨q, 0, none⟩)) (.cells #[.string ⟨#[]⟩, .int .i64 0, .int .i64 0, .string ⟨#[]⟩, .bool false] 38) (h1 := fun Wx => by go_simp) (h2 := fun qe1582 => ?_) (hs := ?_)
            · simp only [Act.put, pa]; try dsimp only [List.set]
              try simp only [List.set_cons_zero, List.set_cons_succ]
              refine readyS [7, 13] ?_
              refine stepS (fun v E1 => ∃ (q_22_83 : Nat), v = .slice (some ⟨q_22_83, 0, none⟩) z z ∧ E1 = [emptyR, boxE qe1582, valsR (.slice (some ⟨q_22_83, 0, none⟩) z z) (List.replicate z V.zero), heapR h (HX [rowO 1 (by decide) (List.replicate k V.zero), rowO 1 (by decide) (List.replicate M V.zero), rowO 1 (by decide) [], rowO 1 (by decide) []])]) (h1 := fun Wx hSw => by (obtain ⟨g, w2, hr, S2⟩ := Sep.makeV hSw z (by have := HZ.out; omega); exact symMake _ _ _ rfl _ _ rfl rfl hr ⟨_, ⟨_, rfl, rfl⟩, S2.into 2 rfl⟩)) (h2 := fun v E1 hvE => ?_) (hs := ?_)
              · obtain ⟨q_22_83, rfl, rfl⟩ := hvE
                simp only [Act.put, pa]; try dsimp only [List.set]
                refine readyS [8, 13] ?_
                refine detS (.agg #[.int .i64 4, .int .i64 5, .string ⟨#[]⟩]) [emptyR, boxE qe1582, valsR (.slice (some ⟨q_22_83, 0, none⟩) z z) (List.replicate z V.zero), heapR h (HX [rowO 1 (by decide) (List.replicate k V.zero), rowO 1 (by decide) (List.replicate M V.zero), rowO 1 (by decide) [], rowO 1 (by decide) [], rowO 1 (by decide) (List.replicate z V.zero)])] (h1 := fun Wx hSw => by (go_simp; refine symCall ?_; have hh := hSw.make 3 rfl (HG4.out.good (by simp)) (by decide) (rowO 1 (by decide) (List.replicate z V.zero)) (.slice (some ⟨q_22_83, 0, none⟩) z z) (hSw.seesV 2 rfl) (by show (List.replicate z V.zero).length ≤ 4194304; rw [List.length_replicate]; have := HZ.out; omega) rfl (show (1 : Int) ≤ 1 by decide) (show (1 : Int) ≤ 12 by decide); exact hh)) (h2 := ?_) (hs := ?_)
                · simp only [Act.put, pa]; try dsimp only [List.set]
                  refine readyS [9, 13] ?_
                  refine detS (.tuple #[.agg #[.int .i64 4, .int .i64 6, .string ⟨#[]⟩], excZ]) [emptyR, boxE qe1582, valsR (.slice (some ⟨q_22_83, 0, none⟩) z z) (List.replicate z V.zero), heapR h (HX [rowO 1 (by decide) (List.replicate k V.zero), rowO 1 (by decide) (List.replicate M V.zero), rowO 1 (by decide) [], rowO 1 (by decide) [], rowO 1 (by decide) (List.replicate z V.zero), rowO 1 (by decide) ZZ])] (h1 := fun Wx hSw => by (go_simp; refine symCall ?_; exact bin_add_rows hSw 3 rfl (HG5.out.good (by simp)) (by decide) (vX 2 (by decide)) (vX 5 (by decide)) rfl rfl ZZ HZZ.out.symm (Nat.le_of_eq HZL.out))) (h2 := ?_) (hs := ?_)
                  · simp only [Act.put, pa]; try dsimp only [List.set]
                    refine quietS 10 ?_
                    simp only [Act.put, pa]; try dsimp only [List.set]
                    refine quietS 11 ?_
                    simp only [Act.put, pa]; try dsimp only [List.set]
                    refine quietS 12 ?_
                    simp only [Act.put, pa]; try dsimp only [List.set]
                    refine readyS [13] ?_
                    refine allocS 0 rfl (fun q => .pointer (some ⟨q, 0, none⟩)) (.cells #[.int .i64 0, .int .i64 0, .string ⟨#[]⟩] 29) (h1 := fun Wx => by go_simp) (h2 := fun qa1586 => ?_) (hs := nilS)
                    simp only [Act.put, pa]; try dsimp only [List.set]
                    try simp only [List.set_cons_zero, List.set_cons_succ]
                    refine readyS [15] ?_
                    refine detS undef [boxW qa1586 4 6 ⟨#[]⟩, boxE qe1582, valsR (.slice (some ⟨q_22_83, 0, none⟩) z z) (List.replicate z V.zero), heapR h (HX [rowO 1 (by decide) (List.replicate k V.zero), rowO 1 (by decide) (List.replicate M V.zero), rowO 1 (by decide) [], rowO 1 (by decide) [], rowO 1 (by decide) (List.replicate z V.zero), rowO 1 (by decide) ZZ])] (h1 := fun Wx hSw => by (have hz := hSw.box (b := qa1586) (o := objZ) 0 rfl; refine useZ3 hz fun z0 z1 z2 y0 y1 y2 => ?_; go_simp; exact ⟨rfl, hSw.set3 0 rfl (.int .i64 4) (.int .i64 6) (.string ⟨#[]⟩)⟩)) (h2 := ?_) (hs := nilS)
                    simp only [Act.put, pa]; try dsimp only [List.set]
                    refine readyS [16] ?_
                    refine detS undef [boxW qa1586 4 6 ⟨#[]⟩, boxE qe1582, valsR (.slice (some ⟨q_22_83, 0, none⟩) z z) (List.replicate z V.zero), heapR h (HX [rowO 1 (by decide) (List.replicate k V.zero), rowO 1 (by decide) (List.replicate M V.zero), rowO 1 (by decide) [], rowO 1 (by decide) [], rowO 1 (by decide) (List.replicate z V.zero), rowO 1 (by decide) ZZ])] (h1 := fun Wx hSw => by (have hz := hSw.box (b := qe1582) (o := objE) 1 rfl; refine useZ5 hz fun z0 z1 z2 z3 z4 y0 y1 y2 y3 y4 => ?_; go_simp; exact ⟨rfl, hSw.set5 1 rfl (.string ⟨#[]⟩) (.int .i64 0) (.int .i64 0) (.string ⟨#[]⟩) (.bool false)⟩)) (h2 := ?_) (hs := nilS)
                    simp only [Act.put, pa]; try dsimp only [List.set]
                    refine doneS (h := fun w22 S => ?_)
                    go_wp2_with fail
                    go_meet
                    exact ⟨_, _, _, rfl, rfl, S⟩
                  refine allocS 0 rfl (fun q => .pointer (some ⟨q, 0, none⟩)) (.cells #[.int .i64 0, .int .i64 0, .string ⟨#[]⟩] 29) (h1 := fun Wx => by go_simp) (h2 := fun qa1589 => ?_) (hs := ?_)
                  · simp only [Act.put, pa]; try dsimp only [List.set]
                    try simp only [List.set_cons_zero, List.set_cons_succ]
                    refine readyS [9] ?_
                    refine detS (.tuple #[.agg #[.int .i64 4, .int .i64 6, .string ⟨#[]⟩], excZ]) [boxZ qa1589, boxE qe1582, valsR (.slice (some ⟨q_22_83, 0, none⟩) z z) (List.replicate z V.zero), heapR h (HX [rowO 1 (by decide) (List.replicate k V.zero), rowO 1 (by decide) (List.replicate M V.zero), rowO 1 (by decide) [], rowO 1 (by decide) [], rowO 1 (by decide) (List.replicate z V.zero), rowO 1 (by decide) ZZ])] (h1 := fun Wx hSw => by (go_simp; refine symCall ?_; exact bin_add_rows hSw 3 rfl (HG5.out.good (by simp)) (by decide) (vX 2 (by decide)) (vX 5 (by decide)) rfl rfl ZZ HZZ.out.symm (Nat.le_of_eq HZL.out))) (h2 := ?_) (hs := nilS)
                    simp only [Act.put, pa]; try dsimp only [List.set]
                    refine quietS 10 ?_
                    simp only [Act.put, pa]; try dsimp only [List.set]
                    refine quietS 11 ?_
                    simp only [Act.put, pa]; try dsimp only [List.set]
                    refine quietS 12 ?_
                    simp only [Act.put, pa]; try dsimp only [List.set]
                    refine readyS [15] ?_
                    refine detS undef [boxW qa1589 4 6 ⟨#[]⟩, boxE qe1582, valsR (.slice (some ⟨q_22_83, 0, none⟩) z z) (List.replicate z V.zero), heapR h (HX [rowO 1 (by decide) (List.replicate k V.zero), rowO 1 (by decide) (List.replicate M V.zero), rowO 1 (by decide) [], rowO 1 (by decide) [], rowO 1 (by decide) (List.replicate z V.zero), rowO 1 (by decide) ZZ])] (h1 := fun Wx hSw => by (have hz := hSw.box (b := qa1589) (o := objZ) 0 rfl; refine useZ3 hz fun z0 z1 z2 y0 y1 y2 => ?_; go_simp; exact ⟨rfl, hSw.set3 0 rfl (.int .i64 4) (.int .i64 6) (.string ⟨#[]⟩)⟩)) (h2 := ?_) (hs := nilS)
                    simp only [Act.put, pa]; try dsimp only [List.set]
                    refine readyS [16] ?_
                    refine detS undef [boxW qa1589 4 6 ⟨#[]⟩, boxE qe1582, valsR (.slice (some ⟨q_22_83, 0, none⟩) z z) (List.replicate z V.zero), heapR h (HX [rowO 1 (by decide) (List.replicate k V.zero), rowO 1 (by decide) (List.replicate M V.zero), rowO 1 (by decide) [], rowO 1 (by decide) [], rowO 1 (by decide) (List.replicate z V.zero), rowO 1 (by decide) ZZ])] (h1 := fun Wx hSw => by (have hz := hSw.box (b := qe1582) (o := objE) 1 rfl; refine useZ5 hz fun z0 z1 z2 z3 z4 y0 y1 y2 y3 y4 => ?_; go_simp; exact ⟨rfl, hSw.set5 1 rfl (.string ⟨#[]⟩) (.int .i64 0) (.int .i64 0) (.string ⟨#[]⟩) (.bool false)⟩)) (h2 := ?_) (hs := nilS)
                    simp only [Act.put, pa]; try dsimp only [List.set]
                    refine doneS (h := fun w22 S => ?_)
                    go_wp2_with fail
                    go_meet
                    exact ⟨_, _, _, rfl, rfl, S⟩
                  exact nilS
                refine allocS 0 rfl (fun q => .pointer (some ⟨q, 0, none⟩)) (.cells #[.int .i64 0, .int .i64 0, .string ⟨#[]⟩] 29) (h1 := fun Wx => by go_simp) (h2 := fun qa1593 => ?_) (hs := ?_)
                · simp only [Act.put, pa]; try dsimp only [List.set]
                  try simp only [List.set_cons_zero, List.set_cons_succ]
                  refine readyS [8] ?_
                  refine detS (.agg #[.int .i64 4, .int .i64 5, .string ⟨#[]⟩]) [boxZ qa1593, boxE qe1582, valsR (.slice (some ⟨q_22_83, 0, none⟩) z z) (List.replicate z V.zero), heapR h (HX [rowO 1 (by decide) (List.replicate k V.zero), rowO 1 (by decide) (List.replicate M V.zero), rowO 1 (by decide) [], rowO 1 (by decide) [], rowO 1 (by decide) (List.replicate z V.zero)])] (h1 := fun Wx hSw => by (go_simp; refine symCall ?_; have hh := hSw.make 3 rfl (HG4.out.good (by simp)) (by decide) (rowO 1 (by decide) (List.replicate z V.zero)) (.slice (some ⟨q_22_83, 0, none⟩) z z) (hSw.seesV 2 rfl) (by show (List.replicate z V.zero).length ≤ 4194304; rw [List.length_replicate]; have := HZ.out; omega) rfl (show (1 : Int) ≤ 1 by decide) (show (1 : Int) ≤ 12 by decide); exact hh)) (h2 := ?_) (hs := nilS)
                  simp only [Act.put, pa]; try dsimp only [List.set]
                  refine readyS [9] ?_
                  refine detS (.tuple #[.agg #[.int .i64 4, .int .i64 6, .string ⟨#[]⟩], excZ]) [boxZ qa1593, boxE qe1582, valsR (.slice (some ⟨q_22_83, 0, none⟩) z z) (List.replicate z V.zero), heapR h (HX [rowO 1 (by decide) (List.replicate k V.zero), rowO 1 (by decide) (List.replicate M V.zero), rowO 1 (by decide) [], rowO 1 (by decide) [], rowO 1 (by decide) (List.replicate z V.zero), rowO 1 (by decide) ZZ])] (h1 := fun Wx hSw => by (go_simp; refine symCall ?_; exact bin_add_rows hSw 3 rfl (HG5.out.good (by simp)) (by decide) (vX 2 (by decide)) (vX 5 (by decide)) rfl rfl ZZ HZZ.out.symm (Nat.le_of_eq HZL.out))) (h2 := ?_) (hs := nilS)
                  simp only [Act.put, pa]; try dsimp only [List.set]
                  refine quietS 10 ?_
                  simp only [Act.put, pa]; try dsimp only [List.set]
                  refine quietS 11 ?_
                  simp only [Act.put, pa]; try dsimp only [List.set]
                  refine quietS 12 ?_
                  simp only [Act.put, pa]; try dsimp only [List.set]
                  refine readyS [15] ?_
                  refine detS undef [boxW qa1593 4 6 ⟨#[]⟩, boxE qe1582, valsR (.slice (some ⟨q_22_83, 0, none⟩) z z) (List.replicate z V.zero), heapR h (HX [rowO 1 (by decide) (List.replicate k V.zero), rowO 1 (by decide) (List.replicate M V.zero), rowO 1 (by decide) [], rowO 1 (by decide) [], rowO 1 (by decide) (List.replicate z V.zero), rowO 1 (by decide) ZZ])] (h1 := fun Wx hSw => by (have hz := hSw.box (b := qa1593) (o := objZ) 0 rfl; refine useZ3 hz fun z0 z1 z2 y0 y1 y2 => ?_; go_simp; exact ⟨rfl, hSw.set3 0 rfl (.int .i64 4) (.int .i64 6) (.string ⟨#[]⟩)⟩)) (h2 := ?_) (hs := nilS)
                  simp only [Act.put, pa]; try dsimp only [List.set]
                  refine readyS [16] ?_
                  refine detS undef [boxW qa1593 4 6 ⟨#[]⟩, boxE qe1582, valsR (.slice (some ⟨q_22_83, 0, none⟩) z z) (List.replicate z V.zero), heapR h (HX [rowO 1 (by decide) (List.replicate k V.zero), rowO 1 (by decide) (List.replicate M V.zero), rowO 1 (by decide) [], rowO 1 (by decide) [], rowO 1 (by decide) (List.replicate z V.zero), rowO 1 (by decide) ZZ])] (h1 := fun Wx hSw => by (have hz := hSw.box (b := qe1582) (o := objE) 1 rfl; refine useZ5 hz fun z0 z1 z2 z3 z4 y0 y1 y2 y3 y4 => ?_; go_simp; exact ⟨rfl, hSw.set5 1 rfl (.string ⟨#[]⟩) (.int .i64 0) (.int .i64 0) (.string ⟨#[]⟩) (.bool false)⟩)) (h2 := ?_) (hs := nilS)
                  simp only [Act.put, pa]; try dsimp only [List.set]
                  refine doneS (h := fun w22 S => ?_)
                  go_wp2_with fail
                  go_meet
                  exact ⟨_, _, _, rfl, rfl, S⟩
                exact nilS
              refine allocS 0 rfl (fun q => .pointer (some ⟨q, 0, none⟩)) (.cells #[.int .i64 0, .int .i64 0, .string ⟨#[]⟩] 29) (h1 := fun Wx => by go_simp) (h2 := fun qa1598 => ?_) (hs := ?_)
              · simp only [Act.put, pa]; try dsimp only [List.set]
                try simp only [List.set_cons_zero, List.set_cons_succ]
                refine readyS [7] ?_
                refine stepS (fun v E1 => ∃ (q_22_99 : Nat), v = .slice (some ⟨q_22_99, 0, none⟩) z z ∧ E1 = [boxZ qa1598, boxE qe1582, valsR (.slice (some ⟨q_22_99, 0, none⟩) z z) (List.replicate z V.zero), heapR h (HX [rowO 1 (by decide) (List.replicate k V.zero), rowO 1 (by decide) (List.replicate M V.zero), rowO 1 (by decide) [], rowO 1 (by decide) []])]) (h1 := fun Wx hSw => by (obtain ⟨g, w2, hr, S2⟩ := Sep.makeV hSw z (by have := HZ.out; omega); exact symMake _ _ _ rfl _ _ rfl rfl hr ⟨_, ⟨_, rfl, rfl⟩, S2.into 2 rfl⟩)) (h2 := fun v E1 hvE => ?_) (hs := nilS)
                obtain ⟨q_22_99, rfl, rfl⟩ := hvE
                simp only [Act.put, pa]; try dsimp only [List.set]
                refine readyS [8] ?_
                refine detS (.agg #[.int .i64 4, .int .i64 5, .string ⟨#[]⟩]) [boxZ qa1598, boxE qe1582, valsR (.slice (some ⟨q_22_99, 0, none⟩) z z) (List.replicate z V.zero), heapR h (HX [rowO 1 (by decide) (List.replicate k V.zero), rowO 1 (by decide) (List.replicate M V.zero), rowO 1 (by decide) [], rowO 1 (by decide) [], rowO 1 (by decide) (List.replicate z V.zero)])] (h1 := fun Wx hSw => by (go_simp; refine symCall ?_; have hh := hSw.make 3 rfl (HG4.out.good (by simp)) (by decide) (rowO 1 (by decide) (List.replicate z V.zero)) (.slice (some ⟨q_22_99, 0, none⟩) z z) (hSw.seesV 2 rfl) (by show (List.replicate z V.zero).length ≤ 4194304; rw [List.length_replicate]; have := HZ.out; omega) rfl (show (1 : Int) ≤ 1 by decide) (show (1 : Int) ≤ 12 by decide); exact hh)) (h2 := ?_) (hs := nilS)
                simp only [Act.put, pa]; try dsimp only [List.set]
                refine readyS [9] ?_
                refine detS (.tuple #[.agg #[.int .i64 4, .int .i64 6, .string ⟨#[]⟩], excZ]) [boxZ qa1598, boxE qe1582, valsR (.slice (some ⟨q_22_99, 0, none⟩) z z) (List.replicate z V.zero), heapR h (HX [rowO 1 (by decide) (List.replicate k V.zero), rowO 1 (by decide) (List.replicate M V.zero), rowO 1 (by decide) [], rowO 1 (by decide) [], rowO 1 (by decide) (List.replicate z V.zero), rowO 1 (by decide) ZZ])] (h1 := fun Wx hSw => by (go_simp; refine symCall ?_; exact bin_add_rows hSw 3 rfl (HG5.out.good (by simp)) (by decide) (vX 2 (by decide)) (vX 5 (by decide)) rfl rfl ZZ HZZ.out.symm (Nat.le_of_eq HZL.out))) (h2 := ?_) (hs := nilS)
                simp only [Act.put, pa]; try dsimp only [List.set]
                refine quietS 10 ?_
                simp only [Act.put, pa]; try dsimp only [List.set]
                refine quietS 11 ?_
                simp only [Act.put, pa]; try dsimp only [List.set]
                refine quietS 12 ?_
                simp only [Act.put, pa]; try dsimp only [List.set]
                refine readyS [15] ?_
                refine detS undef [boxW qa1598 4 6 ⟨#[]⟩, boxE qe1582, valsR (.slice (some ⟨q_22_99, 0, none⟩) z z) (List.replicate z V.zero), heapR h (HX [rowO 1 (by decide) (List.replicate k V.zero), rowO 1 (by decide) (List.replicate M V.zero), rowO 1 (by decide) [], rowO 1 (by decide) [], rowO 1 (by decide) (List.replicate z V.zero), rowO 1 (by decide) ZZ])] (h1 := fun Wx hSw => by (have hz := hSw.box (b := qa1598) (o := objZ) 0 rfl; refine useZ3 hz fun z0 z1 z2 y0 y1 y2 => ?_; go_simp; exact ⟨rfl, hSw.set3 0 rfl (.int .i64 4) (.int .i64 6) (.string ⟨#[]⟩)⟩)) (h2 := ?_) (hs := nilS)
                simp only [Act.put, pa]; try dsimp only [List.set]
                refine readyS [16] ?_
                refine detS undef [boxW qa1598 4 6 ⟨#[]⟩, boxE qe1582, valsR (.slice (some ⟨q_22_99, 0, none⟩) z z) (List.replicate z V.zero), heapR h (HX [rowO 1 (by decide) (List.replicate k V.zero), rowO 1 (by decide) (List.replicate M V.zero), rowO 1 (by decide) [], rowO 1 (by decide) [], rowO 1 (by decide) (List.replicate z V.zero), rowO 1 (by decide) ZZ])] (h1 := fun Wx hSw => by (have hz := hSw.box (b := qe1582) (o := objE) 1 rfl; refine useZ5 hz fun z0 z1 z2 z3 z4 y0 y1 y2 y3 y4 => ?_; go_simp; exact ⟨rfl, hSw.set5 1 rfl (.string ⟨#[]⟩) (.int .i64 0) (.int .i64 0) (.string ⟨#[]⟩) (.bool false)⟩)) (h2 := ?_) (hs := nilS)
                simp only [Act.put, pa]; try dsimp only [List.set]
                refine doneS (h := fun w22 S => ?_)
                go_wp2_with fail
                go_meet
                exact ⟨_, _, _, rfl, rfl, S⟩
              exact nilS
            exact nilS
        case rest =>
          obtain ⟨qa15, qe15, qr15, rfl, rfl, S⟩ := hcut
          replace S : Sep w (boxW qa15 4 6 ⟨#[]⟩ :: boxE qe15 :: valsR (.slice (some ⟨qr15, 0, none⟩) z z) (List.replicate z V.zero) :: heapR h (HX [rowO 1 (by decide) (List.replicate k V.zero), rowO 1 (by decide) (List.replicate M V.zero), rowO 1 (by decide) [], rowO 1 (by decide) [], rowO 1 (by decide) (List.replicate z V.zero), rowO 1 (by decide) ZZ]) :: boxW qa114 4 4 ⟨#[]⟩ :: boxE qe115 :: boxZ qq0_10 :: boxN qq1_10 memoryError :: boxW qq0_8 4 2 ⟨#[]⟩ :: boxE qq1_8 :: boxW qv3 4 1 ⟨#[]⟩ :: valsR (.slice (some ⟨q_6_1, 0, none⟩) k k) (List.replicate k V.zero) :: []) wc := by rw [Hb15_20.out] at S; exact S
          clear Hb15_20 Kb15_20 Cb15_20_0
          obtain ⟨z1, hz1⟩ : ∃ z1, z1 = z + 1 := ⟨_, rfl⟩
          have HZ1 : Hid (z1 = z + 1) := Lib.hid hz1
          have q6 : IntKind.i64.wrap ((z : Int) + 1) = (z1 : Int) := by rw [Q6.out, hz1]
          clear hz1
          have HG7 : Hid (HXL [rowO 1 (by decide) (List.replicate k V.zero), rowO 1 (by decide) (List.replicate M V.zero), rowO 1 (by decide) [], rowO 1 (by decide) [], rowO 1 (by decide) (List.replicate z V.zero), rowO 1 (by decide) ZZ, rowO 1 (by decide) (List.replicate z1 V.zero)]) := Lib.hid (HG6.out.snoc (by rw [List.length_replicate]; have := HZ1.out; have := HZ.out; omega))
          replace S : Sep w (heapR h (HX [rowO 1 (by decide) (List.replicate k V.zero), rowO 1 (by decide) (List.replicate M V.zero), rowO 1 (by decide) [], rowO 1 (by decide) [], rowO 1 (by decide) (List.replicate z V.zero), rowO 1 (by decide) ZZ]) :: boxW qa15 4 6 ⟨#[]⟩ :: boxE qe15 :: valsR (.slice (some ⟨qr15, 0, none⟩) z z) (List.replicate z V.zero) :: boxW qa114 4 4 ⟨#[]⟩ :: boxE qe115 :: boxZ qq0_10 :: boxN qq1_10 memoryError :: boxW qq0_8 4 2 ⟨#[]⟩ :: boxE qq1_8 :: boxW qv3 4 1 ⟨#[]⟩ :: valsR (.slice (some ⟨q_6_1, 0, none⟩) k k) (List.replicate k V.zero) :: []) (wc) := by
            refine (show Sep w ([boxW qa15 4 6 ⟨#[]⟩, boxE qe15, valsR (.slice (some ⟨qr15, 0, none⟩) z z) (List.replicate z V.zero), heapR h (HX [rowO 1 (by decide) (List.replicate k V.zero), rowO 1 (by decide) (List.replicate M V.zero), rowO 1 (by decide) [], rowO 1 (by decide) [], rowO 1 (by decide) (List.replicate z V.zero), rowO 1 (by decide) ZZ]), boxW qa114 4 4 ⟨#[]⟩, boxE qe115, boxZ qq0_10, boxN qq1_10 memoryError, boxW qq0_8 4 2 ⟨#[]⟩, boxE qq1_8, boxW qv3 4 1 ⟨#[]⟩, valsR (.slice (some ⟨q_6_1, 0, none⟩) k k) (List.replicate k V.zero)] ++ []) _ from S).perm ?_
            exact List.Perm.append_right [] (perm_of (l := [boxW qa15 4 6 ⟨#[]⟩, boxE qe15, valsR (.slice (some ⟨qr15, 0, none⟩) z z) (List.replicate z V.zero), heapR h (HX [rowO 1 (by decide) (List.replicate k V.zero), rowO 1 (by decide) (List.replicate M V.zero), rowO 1 (by decide) [], rowO 1 (by decide) [], rowO 1 (by decide) (List.replicate z V.zero), rowO 1 (by decide) ZZ]), boxW qa114 4 4 ⟨#[]⟩, boxE qe115, boxZ qq0_10, boxN qq1_10 memoryError, boxW qq0_8 4 2 ⟨#[]⟩, boxE qq1_8, boxW qv3 4 1 ⟨#[]⟩, valsR (.slice (some ⟨q_6_1, 0, none⟩) k k) (List.replicate k V.zero)]) [3, 0, 1, 2, 4, 5, 6, 7, 8, 9, 10, 11] (by show (List.range' 0 12).Perm [3, 0, 1, 2, 4, 5, 6, 7, 8, 9, 10, 11]; decide) (by rfl))
          refine named (boxW qa15 4 6 ⟨#[]⟩ :: boxE qe15 :: valsR (.slice (some ⟨qr15, 0, none⟩) z z) (List.replicate z V.zero) :: boxW qa114 4 4 ⟨#[]⟩ :: boxE qe115 :: boxZ qq0_10 :: boxN qq1_10 memoryError :: boxW qq0_8 4 2 ⟨#[]⟩ :: boxE qq1_8 :: boxW qv3 4 1 ⟨#[]⟩ :: valsR (.slice (some ⟨q_6_1, 0, none⟩) k k) (List.replicate k V.zero) :: [] : List Res) fun b16_22 hb16_22 => ?_
          have Hb16_22 := Lib.hid hb16_22
          have Kb16_22 : Hid (∀ W (Q : List Res), Sep w (Q ++ b16_22) W → True) := Lib.hid fun W Q T => by
            rw [hb16_22] at T
            trivial
          have Cb16_22_0 : Hid (∀ W (Q : List Res), Sep w (Q ++ b16_22) W → W.cell? ⟨qq0_8, 0, none⟩ = some (.int .i64 4) ∧ W.cell? ⟨qq0_8, 1, none⟩ = some (.int .i64 2) ∧ W.cell? ⟨qq0_8, 2, none⟩ = some (.string ⟨#[]⟩)) := Lib.hid fun W Q T => by
            rw [hb16_22] at T
            have i0 := T.box (b := qq0_8) (o := objW 4 2 ⟨#[]⟩) (Q.length + 7) (by rw [List.getElem?_append_right (by omega), Nat.add_sub_cancel_left]; rfl)
            exact ⟨cellAt i0 0 rfl, cellAt i0 1 rfl, cellAt i0 2 rfl⟩
          replace S := Lib.hid S
          clear hb16_22
          go_upto_region 16 with fail
          go_cut [19, 20] (fun s19 s20 wx => ∃ qq0 qq1 qr, s19 = .pointer (some ⟨qq0, 0, none⟩) ∧ s20 = .pointer (some ⟨qq1, 0, none⟩) ∧ Sep w ([boxZ qq0, boxN qq1 memoryError, valsR (.slice (some ⟨qr, 0, none⟩) z1 z1) (List.replicate z1 V.zero), heapR h (HX [rowO 1 (by decide) (List.replicate k V.zero), rowO 1 (by decide) (List.replicate M V.zero), rowO 1 (by decide) [], rowO 1 (by decide) [], rowO 1 (by decide) (List.replicate z V.zero), rowO 1 (by decide) ZZ, rowO 1 (by decide) (List.replicate z1 V.zero)])] ++ b16_22) wx)
          case first =>
            have S1 : Sep w ([heapR h (HX [rowO 1 (by decide) (List.replicate k V.zero), rowO 1 (by decide) (List.replicate M V.zero), rowO 1 (by decide) [], rowO 1 (by decide) [], rowO 1 (by decide) (List.replicate z V.zero), rowO 1 (by decide) ZZ])] ++ b16_22) (wc) := by rw [Hb16_22.out]; exact S.out
            clear S
            as_aux_lemma =>
              refine regionP 8 10 (E := [emptyR, emptyR, emptyR, heapR h (HX [rowO 1 (by decide) (List.replicate k V.zero), rowO 1 (by decide) (List.replicate M V.zero), rowO 1 (by decide) [], rowO 1 (by decide) [], rowO 1 (by decide) (List.replicate z V.zero), rowO 1 (by decide) ZZ])]) (base := b16_22) (Sep.putE (Sep.putE (Sep.putE S1))) ?_
              clear S1
              refine quietP ?_
              simp only [Act.put, pa]; try dsimp only [List.set]
              refine quietP (hy := fun E Wx hSw => by ((refine and3 (Cb16_22_0.out _ _ hSw) fun u0 u1 u2 => ?_); go_simp; exact ⟨rfl, hSw⟩)) (h := ?_)
              simp only [Act.put, pa]; try dsimp only [List.set]
              iterate 6 (refine quietP ?_; simp only [Act.put, pa]; try dsimp only [List.set])
              refine endP ?_
              refine readyS [8, 14, 15] ?_
              refine stepS (fun v E1 => ∃ (q_24_1 : Nat), v = .slice (some ⟨q_24_1, 0, none⟩) z1 z1 ∧ E1 = [emptyR, emptyR, valsR (.slice (some ⟨q_24_1, 0, none⟩) z1 z1) (List.replicate z1 V.zero), heapR h (HX [rowO 1 (by decide) (List.replicate k V.zero), rowO 1 (by decide) (List.replicate M V.zero), rowO 1 (by decide) [], rowO 1 (by decide) [], rowO 1 (by decide) (List.replicate z V.zero), rowO 1 (by decide) ZZ])]) (h1 := fun Wx hSw => by (obtain ⟨g, w2, hr, S2⟩ := Sep.makeV hSw z1 (by have := HZ1.out; have := HZ.out; omega); exact symMake _ _ _ rfl _ _ rfl rfl hr ⟨_, ⟨_, rfl, rfl⟩, S2.into 2 rfl⟩)) (h2 := fun v E1 hvE => ?_) (hs := ?_)
              · obtain ⟨q_24_1, rfl, rfl⟩ := hvE
                simp only [Act.put, pa]; try dsimp only [List.set]
                refine readyS [9, 14, 15] ?_
                refine detS (.agg #[.int .i64 4, .int .i64 7, .string ⟨#[]⟩]) [emptyR, emptyR, valsR (.slice (some ⟨q_24_1, 0, none⟩) z1 z1) (List.replicate z1 V.zero), heapR h (HX [rowO 1 (by decide) (List.replicate k V.zero), rowO 1 (by decide) (List.replicate M V.zero), rowO 1 (by decide) [], rowO 1 (by decide) [], rowO 1 (by decide) (List.replicate z V.zero), rowO 1 (by decide) ZZ, rowO 1 (by decide) (List.replicate z1 V.zero)])] (h1 := fun Wx hSw => by (go_simp; refine symCall ?_; have hh := hSw.make 3 rfl (HG6.out.good (by simp)) (by decide) (rowO 1 (by decide) (List.replicate z1 V.zero)) (.slice (some ⟨q_24_1, 0, none⟩) z1 z1) (hSw.seesV 2 rfl) (by show (List.replicate z1 V.zero).length ≤ 4194304; rw [List.length_replicate]; have := HZ1.out; have := HZ.out; omega) rfl (show (1 : Int) ≤ 1 by decide) (show (1 : Int) ≤ 12 by decide); exact hh)) (h2 := ?_) (hs := ?_)
                · simp only [Act.put, pa]; try dsimp only [List.set]
                  refine readyS [10, 14, 15] ?_
                  refine detS (.tuple #[zeroV, excN memoryError]) [emptyR, emptyR, valsR (.slice (some ⟨q_24_1, 0, none⟩) z1 z1) (List.replicate z1 V.zero), heapR h (HX [rowO 1 (by decide) (List.replicate k V.zero), rowO 1 (by decide) (List.replicate M V.zero), rowO 1 (by decide) [], rowO 1 (by decide) [], rowO 1 (by decide) (List.replicate z V.zero), rowO 1 (by decide) ZZ, rowO 1 (by decide) (List.replicate z1 V.zero)])] (h1 := fun Wx hSw => by (go_simp; refine symCall ?_; exact bin_add_no hSw 3 rfl (HG7.out.good (by simp)) (by decide) (vX 2 (by decide)) (vX 7 (by decide)) rfl rfl (by show 4096 < (List.replicate M V.zero).length + (List.replicate z1 V.zero).length; rw [List.length_replicate, List.length_replicate]; have := HZ1.out; have := HZ.out; have := HF.out; omega))) (h2 := ?_) (hs := ?_)
                  · simp only [Act.put, pa]; try dsimp only [List.set]
                    refine quietS 11 ?_
                    simp only [Act.put, pa]; try dsimp only [List.set]
                    refine quietS 12 ?_
                    simp only [Act.put, pa]; try dsimp only [List.set]
                    refine quietS 13 ?_
                    simp only [Act.put, pa]; try dsimp only [List.set]
                    refine readyS [14, 15] ?_
                    refine allocS 0 rfl (fun q => .pointer (some ⟨q, 0, none⟩)) (.cells #[.int .i64 0, .int .i64 0, .string ⟨#[]⟩] 29) (h1 := fun Wx => by go_simp) (h2 := fun qa164 => ?_) (hs := ?_)
                    · simp only [Act.put, pa]; try dsimp only [List.set]
                      try simp only [List.set_cons_zero, List.set_cons_succ]
                      refine readyS [15] ?_
                      refine allocS 1 rfl (fun q => .pointer (some ⟨q, 0, none⟩)) (.cells #[.string ⟨#[]⟩, .int .i64 0, .int .i64 0, .string ⟨#[]⟩, .bool false] 38) (h1 := fun Wx => by go_simp) (h2 := fun qe165 => ?_) (hs := nilS)
                      simp only [Act.put, pa]; try dsimp only [List.set]
                      try simp only [List.set_cons_zero, List.set_cons_succ]
                      refine readyS [16] ?_
                      refine detS undef [boxZ qa164, boxE qe165, valsR (.slice (some ⟨q_24_1, 0, none⟩) z1 z1) (List.replicate z1 V.zero), heapR h (HX [rowO 1 (by decide) (List.replicate k V.zero), rowO 1 (by decide) (List.replicate M V.zero), rowO 1 (by decide) [], rowO 1 (by decide) [], rowO 1 (by decide) (List.replicate z V.zero), rowO 1 (by decide) ZZ, rowO 1 (by decide) (List.replicate z1 V.zero)])] (h1 := fun Wx hSw => by (have hz := hSw.box (b := qa164) (o := objZ) 0 rfl; refine useZ3 hz fun z0 z1 z2 y0 y1 y2 => ?_; go_simp; exact ⟨rfl, hSw.set3 0 rfl (.int .i64 0) (.int .i64 0) (.string ⟨#[]⟩)⟩)) (h2 := ?_) (hs := nilS)
                      simp only [Act.put, pa]; try dsimp only [List.set]
                      refine readyS [17] ?_
                      refine detS undef [boxZ qa164, boxN qe165 memoryError, valsR (.slice (some ⟨q_24_1, 0, none⟩) z1 z1) (List.replicate z1 V.zero), heapR h (HX [rowO 1 (by decide) (List.replicate k V.zero), rowO 1 (by decide) (List.replicate M V.zero), rowO 1 (by decide) [], rowO 1 (by decide) [], rowO 1 (by decide) (List.replicate z V.zero), rowO 1 (by decide) ZZ, rowO 1 (by decide) (List.replicate z1 V.zero)])] (h1 := fun Wx hSw => by (have hz := hSw.box (b := qe165) (o := objE) 1 rfl; refine useZ5 hz fun z0 z1 z2 z3 z4 y0 y1 y2 y3 y4 => ?_; go_simp; exact ⟨rfl, hSw.set5 1 rfl (.string memoryError) (.int .i64 0) (.int .i64 0) (.string ⟨#[]⟩) (.bool false)⟩)) (h2 := ?_) (hs := nilS)
                      simp only [Act.put, pa]; try dsimp only [List.set]
                      refine doneS (h := fun w24 S => ?_)
                      go_wp2_with fail
                      go_meet
                      exact ⟨_, _, _, rfl, rfl, S⟩
                    refine allocS 1 rfl (fun q => .pointer (some ⟨q, 0, none⟩)) (.cells #[.string ⟨#[]⟩, .int .i64 0, .int .i64 0, .string ⟨#[]⟩, .bool false] 38) (h1 := fun Wx => by go_simp) (h2 := fun qe168 => ?_) (hs := ?_)
                    · simp only [Act.put, pa]; try dsimp only [List.set]
                      try simp only [List.set_cons_zero, List.set_cons_succ]
                      refine readyS [14] ?_
                      refine allocS 0 rfl (fun q => .pointer (some ⟨q, 0, none⟩)) (.cells #[.int .i64 0, .int .i64 0, .string ⟨#[]⟩] 29) (h1 := fun Wx => by go_simp) (h2 := fun qa169 => ?_) (hs := nilS)
                      simp only [Act.put, pa]; try dsimp only [List.set]
                      try simp only [List.set_cons_zero, List.set_cons_succ]
                      refine readyS [16] ?_
                      refine detS undef [boxZ qa169, boxE qe168, valsR (.slice (some ⟨q_24_1, 0, none⟩) z1 z1) (List.replicate z1 V.zero), heapR h (HX [rowO 1 (by decide) (List.replicate k V.zero), rowO 1 (by decide) (List.replicate M V.zero), rowO 1 (by decide) [], rowO 1 (by decide) [], rowO 1 (by decide) (List.replicate z V.zero), rowO 1 (by decide) ZZ, rowO 1 (by decide) (List.replicate z1 V.zero)])] (h1 := fun Wx hSw => by (have hz := hSw.box (b := qa169) (o := objZ) 0 rfl; refine useZ3 hz fun z0 z1 z2 y0 y1 y2 => ?_; go_simp; exact ⟨rfl, hSw.set3 0 rfl (.int .i64 0) (.int .i64 0) (.string ⟨#[]⟩)⟩)) (h2 := ?_) (hs := nilS)
                      simp only [Act.put, pa]; try dsimp only [List.set]
                      refine readyS [17] ?_
                      refine detS undef [boxZ qa169, boxN qe168 memoryError, valsR (.slice (some ⟨q_24_1, 0, none⟩) z1 z1) (List.replicate z1 V.zero), heapR h (HX [rowO 1 (by decide) (List.replicate k V.zero), rowO 1 (by decide) (List.replicate M V.zero), rowO 1 (by decide) [], rowO 1 (by decide) [], rowO 1 (by decide) (List.replicate z V.zero), rowO 1 (by decide) ZZ, rowO 1 (by decide) (List.replicate z1 V.zero)])] (h1 := fun Wx hSw => by (have hz := hSw.box (b := qe168) (o := objE) 1 rfl; refine useZ5 hz fun z0 z1 z2 z3 z4 y0 y1 y2 y3 y4 => ?_; go_simp; exact ⟨rfl, hSw.set5 1 rfl (.string memoryError) (.int .i64 0) (.int .i64 0) (.string ⟨#[]⟩) (.bool false)⟩)) (h2 := ?_) (hs := nilS)
                      simp only [Act.put, pa]; try dsimp only [List.set]
                      refine doneS (h := fun w24 S => ?_)
                      go_wp2_with fail
                      go_meet
                      exact ⟨_, _, _, rfl, rfl, S⟩
                    exact nilS
                  refine allocS 0 rfl (fun q => .pointer (some ⟨q, 0, none⟩)) (.cells #[.int .i64 0, .int .i64 0, .string ⟨#[]⟩] 29) (h1 := fun Wx => by go_simp) (h2 := fun qa1612 => ?_) (hs := ?_)
                  · simp only [Act.put, pa]; try dsimp only [List.set]
                    try simp only [List.set_cons_zero, List.set_cons_succ]
                    refine readyS [10, 15] ?_
                    refine detS (.tuple #[zeroV, excN memoryError]) [boxZ qa1612, emptyR, valsR (.slice (some ⟨q_24_1, 0, none⟩) z1 z1) (List.replicate z1 V.zero), heapR h (HX [rowO 1 (by decide) (List.replicate k V.zero), rowO 1 (by decide) (List.replicate M V.zero), rowO 1 (by decide) [], rowO 1 (by decide) [], rowO 1 (by decide) (List.replicate z V.zero), rowO 1 (by decide) ZZ, rowO 1 (by decide) (List.replicate z1 V.zero)])] (h1 := fun Wx hSw => by (go_simp; refine symCall ?_; exact bin_add_no hSw 3 rfl (HG7.out.good (by simp)) (by decide) (vX 2 (by decide)) (vX 7 (by decide)) rfl rfl (by show 4096 < (List.replicate M V.zero).length + (List.replicate z1 V.zero).length; rw [List.length_replicate, List.length_replicate]; have := HZ1.out; have := HZ.out; have := HF.out; omega))) (h2 := ?_) (hs := ?_)
                    · simp only [Act.put, pa]; try dsimp only [List.set]
                      refine quietS 11 ?_
                      simp only [Act.put, pa]; try dsimp only [List.set]
                      refine quietS 12 ?_
                      simp only [Act.put, pa]; try dsimp only [List.set]
                      refine quietS 13 ?_
                      simp only [Act.put, pa]; try dsimp only [List.set]
                      refine readyS [15] ?_
                      refine allocS 1 rfl (fun q => .pointer (some ⟨q, 0, none⟩)) (.cells #[.string ⟨#[]⟩, .int .i64 0, .int .i64 0, .string ⟨#[]⟩, .bool false] 38) (h1 := fun Wx => by go_simp) (h2 := fun qe1614 => ?_) (hs := nilS)
                      simp only [Act.put, pa]; try dsimp only [List.set]
                      try simp only [List.set_cons_zero, List.set_cons_succ]
                      refine readyS [16] ?_
                      refine detS undef [boxZ qa1612, boxE qe1614, valsR (.slice (some ⟨q_24_1, 0, none⟩) z1 z1) (List.replicate z1 V.zero), heapR h (HX [rowO 1 (by decide) (List.replicate k V.zero), rowO 1 (by decide) (List.replicate M V.zero), rowO 1 (by decide) [], rowO 1 (by decide) [], rowO 1 (by decide) (List.replicate z V.zero), rowO 1 (by decide) ZZ, rowO 1 (by decide) (List.replicate z1 V.zero)])] (h1 := fun Wx hSw => by (have hz := hSw.box (b := qa1612) (o := objZ) 0 rfl; refine useZ3 hz fun z0 z1 z2 y0 y1 y2 => ?_; go_simp; exact ⟨rfl, hSw.set3 0 rfl (.int .i64 0) (.int .i64 0) (.string ⟨#[]⟩)⟩)) (h2 := ?_) (hs := nilS)
                      simp only [Act.put, pa]; try dsimp only [List.set]
                      refine readyS [17] ?_
                      refine detS undef [boxZ qa1612, boxN qe1614 memoryError, valsR (.slice (some ⟨q_24_1, 0, none⟩) z1 z1) (List.replicate z1 V.zero), heapR h (HX [rowO 1 (by decide) (List.replicate k V.zero), rowO 1 (by decide) (List.replicate M V.zero), rowO 1 (by decide) [], rowO 1 (by decide) [], rowO 1 (by decide) (List.replicate z V.zero), rowO 1 (by decide) ZZ, rowO 1 (by decide) (List.replicate z1 V.zero)])] (h1 := fun Wx hSw => by (have hz := hSw.box (b := qe1614) (o := objE) 1 rfl; refine useZ5 hz fun z0 z1 z2 z3 z4 y0 y1 y2 y3 y4 => ?_; go_simp; exact ⟨rfl, hSw.set5 1 rfl (.string memoryError) (.int .i64 0) (.int .i64 0) (.string ⟨#[]⟩) (.bool false)⟩)) (h2 := ?_) (hs := nilS)
                      simp only [Act.put, pa]; try dsimp only [List.set]
                      refine doneS (h := fun w24 S => ?_)
                      go_wp2_with fail
                      go_meet
                      exact ⟨_, _, _, rfl, rfl, S⟩
                    refine allocS 1 rfl (fun q => .pointer (some ⟨q, 0, none⟩)) (.cells #[.string ⟨#[]⟩, .int .i64 0, .int .i64 0, .string ⟨#[]⟩, .bool false] 38) (h1 := fun Wx => by go_simp) (h2 := fun qe1617 => ?_) (hs := ?_)
                    · simp only [Act.put, pa]; try dsimp only [List.set]
                      try simp only [List.set_cons_zero, List.set_cons_succ]
                      refine readyS [10] ?_
                      refine detS (.tuple #[zeroV, excN memoryError]) [boxZ qa1612, boxE qe1617, valsR (.slice (some ⟨q_24_1, 0, none⟩) z1 z1) (List.replicate z1 V.zero), heapR h (HX [rowO 1 (by decide) (List.replicate k V.zero), rowO 1 (by decide) (List.replicate M V.zero), rowO 1 (by decide) [], rowO 1 (by decide) [], rowO 1 (by decide) (List.replicate z V.zero), rowO 1 (by decide) ZZ, rowO 1 (by decide) (List.replicate z1 V.zero)])] (h1 := fun Wx hSw => by (go_simp; refine symCall ?_; exact bin_add_no hSw 3 rfl (HG7.out.good (by simp)) (by decide) (vX 2 (by decide)) (vX 7 (by decide)) rfl rfl (by show 4096 < (List.replicate M V.zero).length + (List.replicate z1 V.zero).length; rw [List.length_replicate, List.length_replicate]; have := HZ1.out; have := HZ.out; have := HF.out; omega))) (h2 := ?_) (hs := nilS)
                      simp only [Act.put, pa]; try dsimp only [List.set]
                      refine quietS 11 ?_
                      simp only [Act.put, pa]; try dsimp only [List.set]
                      refine quietS 12 ?_
                      simp only [Act.put, pa]; try dsimp only [List.set]
                      refine quietS 13 ?_
                      simp only [Act.put, pa]; try dsimp only [List.set]
                      refine readyS [16] ?_
                      refine detS undef [boxZ qa1612, boxE qe1617, valsR (.slice (some ⟨q_24_1, 0, none⟩) z1 z1) (List.replicate z1 V.zero), heapR h (HX [rowO 1 (by decide) (List.replicate k V.zero), rowO 1 (by decide) (List.replicate M V.zero), rowO 1 (by decide) [], rowO 1 (by decide) [], rowO 1 (by decide) (List.replicate z V.zero), rowO 1 (by decide) ZZ, rowO 1 (by decide) (List.replicate z1 V.zero)])] (h1 := fun Wx hSw => by (have hz := hSw.box (b := qa1612) (o := objZ) 0 rfl; refine useZ3 hz fun z0 z1 z2 y0 y1 y2 => ?_; go_simp; exact ⟨rfl, hSw.set3 0 rfl (.int .i64 0) (.int .i64 0) (.string ⟨#[]⟩)⟩)) (h2 := ?_) (hs := nilS)
                      simp only [Act.put, pa]; try dsimp only [List.set]
                      refine readyS [17] ?_
                      refine detS undef [boxZ qa1612, boxN qe1617 memoryError, valsR (.slice (some ⟨q_24_1, 0, none⟩) z1 z1) (List.replicate z1 V.zero), heapR h (HX [rowO 1 (by decide) (List.replicate k V.zero), rowO 1 (by decide) (List.replicate M V.zero), rowO 1 (by decide) [], rowO 1 (by decide) [], rowO 1 (by decide) (List.replicate z V.zero), rowO 1 (by decide) ZZ, rowO 1 (by decide) (List.replicate z1 V.zero)])] (h1 := fun Wx hSw => by (have hz := hSw.box (b := qe1617) (o := objE) 1 rfl; refine useZ5 hz fun z0 z1 z2 z3 z4 y0 y1 y2 y3 y4 => ?_; go_simp; exact ⟨rfl, hSw.set5 1 rfl (.string memoryError) (.int .i64 0) (.int .i64 0) (.string ⟨#[]⟩) (.bool false)⟩)) (h2 := ?_) (hs := nilS)
                      simp only [Act.put, pa]; try dsimp only [List.set]
                      refine doneS (h := fun w24 S => ?_)
                      go_wp2_with fail
                      go_meet
                      exact ⟨_, _, _, rfl, rfl, S⟩
                    exact nilS
                  refine allocS 1 rfl (fun q => .pointer (some ⟨q, 0, none⟩)) (.cells #[.string ⟨#[]⟩, .int .i64 0, .int .i64 0, .string ⟨#[]⟩, .bool false] 38) (h1 := fun Wx => by go_simp) (h2 := fun qe1621 => ?_) (hs := ?_)
                  · simp only [Act.put, pa]; try dsimp only [List.set]
                    try simp only [List.set_cons_zero, List.set_cons_succ]
                    refine readyS [10, 14] ?_
                    refine detS (.tuple #[zeroV, excN memoryError]) [emptyR, boxE qe1621, valsR (.slice (some ⟨q_24_1, 0, none⟩) z1 z1) (List.replicate z1 V.zero), heapR h (HX [rowO 1 (by decide) (List.replicate k V.zero), rowO 1 (by decide) (List.replicate M V.zero), rowO 1 (by decide) [], rowO 1 (by decide) [], rowO 1 (by decide) (List.replicate z V.zero), rowO 1 (by decide) ZZ, rowO 1 (by decide) (List.replicate z1 V.zero)])] (h1 := fun Wx hSw => by (go_simp; refine symCall ?_; exact bin_add_no hSw 3 rfl (HG7.out.good (by simp)) (by decide) (vX 2 (by decide)) (vX 7 (by decide)) rfl rfl (by show 4096 < (List.replicate M V.zero).length + (List.replicate z1 V.zero).length; rw [List.length_replicate, List.length_replicate]; have := HZ1.out; have := HZ.out; have := HF.out; omega))) (h2 := ?_) (hs := ?_)
                    · simp only [Act.put, pa]; try dsimp only [List.set]
                      refine quietS 11 ?_
                      simp only [Act.put, pa]; try dsimp only [List.set]
                      refine quietS 12 ?_
                      simp only [Act.put, pa]; try dsimp only [List.set]
                      refine quietS 13 ?_
                      simp only [Act.put, pa]; try dsimp only [List.set]
                      refine readyS [14] ?_
                      refine allocS 0 rfl (fun q => .pointer (some ⟨q, 0, none⟩)) (.cells #[.int .i64 0, .int .i64 0, .string ⟨#[]⟩] 29) (h1 := fun Wx => by go_simp) (h2 := fun qa1623 => ?_) (hs := nilS)
                      simp only [Act.put, pa]; try dsimp only [List.set]
                      try simp only [List.set_cons_zero, List.set_cons_succ]
                      refine readyS [16] ?_
                      refine detS undef [boxZ qa1623, boxE qe1621, valsR (.slice (some ⟨q_24_1, 0, none⟩) z1 z1) (List.replicate z1 V.zero), heapR h (HX [rowO 1 (by decide) (List.replicate k V.zero), rowO 1 (by decide) (List.replicate M V.zero), rowO 1 (by decide) [], rowO 1 (by decide) [], rowO 1 (by decide) (List.replicate z V.zero), rowO 1 (by decide) ZZ, rowO 1 (by decide) (List.replicate z1 V.zero)])] (h1 := fun Wx hSw => by (have hz := hSw.box (b := qa1623) (o := objZ) 0 rfl; refine useZ3 hz fun z0 z1 z2 y0 y1 y2 => ?_; go_simp; exact ⟨rfl, hSw.set3 0 rfl (.int .i64 0) (.int .i64 0) (.string ⟨#[]⟩)⟩)) (h2 := ?_) (hs := nilS)
                      simp only [Act.put, pa]; try dsimp only [List.set]
                      refine readyS [17] ?_
                      refine detS undef [boxZ qa1623, boxN qe1621 memoryError, valsR (.slice (some ⟨q_24_1, 0, none⟩) z1 z1) (List.replicate z1 V.zero), heapR h (HX [rowO 1 (by decide) (List.replicate k V.zero), rowO 1 (by decide) (List.replicate M V.zero), rowO 1 (by decide) [], rowO 1 (by decide) [], rowO 1 (by decide) (List.replicate z V.zero), rowO 1 (by decide) ZZ, rowO 1 (by decide) (List.replicate z1 V.zero)])] (h1 := fun Wx hSw => by (have hz := hSw.box (b := qe1621) (o := objE) 1 rfl; refine useZ5 hz fun z0 z1 z2 z3 z4 y0 y1 y2 y3 y4 => ?_; go_simp; exact ⟨rfl, hSw.set5 1 rfl (.string memoryError) (.int .i64 0) (.int .i64 0) (.string ⟨#[]⟩) (.bool false)⟩)) (h2 := ?_) (hs := nilS)
                      simp only [Act.put, pa]; try dsimp only [List.set]
                      refine doneS (h := fun w24 S => ?_)
                      go_wp2_with fail
                      go_meet
                      exact ⟨_, _, _, rfl, rfl, S⟩
                    refine allocS 0 rfl (fun q => .pointer (some ⟨q, 0, none⟩)) (.cells #[.int .i64 0, .int .i64 0, .string ⟨#[]⟩] 29) (h1 := fun Wx => by go_simp) (h2 := fun qa1626 => ?_) (hs := ?_)
                    · simp only [Act.put, pa]; try dsimp only [List.set]
                      try simp only [List.set_cons_zero, List.set_cons_succ]
                      refine readyS [10] ?_
                      refine detS (.tuple #[zeroV, excN memoryError]) [boxZ qa1626, boxE qe1621, valsR (.slice (some ⟨q_24_1, 0, none⟩) z1 z1) (List.replicate z1 V.zero), heapR h (HX [rowO 1 (by decide) (List.replicate k V.zero), rowO 1 (by decide) (List.replicate M V.zero), rowO 1 (by decide) [], rowO 1 (by decide) [], rowO 1 (by decide) (List.replicate z V.zero), rowO 1 (by decide) ZZ, rowO 1 (by decide) (List.replicate z1 V.zero)])] (h1 := fun Wx hSw => by (go_simp; refine symCall ?_; exact bin_add_no hSw 3 rfl (HG7.out.good (by simp)) (by decide) (vX 2 (by decide)) (vX 7 (by decide)) rfl rfl (by show 4096 < (List.replicate M V.zero).length + (List.replicate z1 V.zero).length; rw [List.length_replicate, List.length_replicate]; have := HZ1.out; have := HZ.out; have := HF.out; omega))) (h2 := ?_) (hs := nilS)
                      simp only [Act.put, pa]; try dsimp only [List.set]
                      refine quietS 11 ?_
                      simp only [Act.put, pa]; try dsimp only [List.set]
                      refine quietS 12 ?_
                      simp only [Act.put, pa]; try dsimp only [List.set]
                      refine quietS 13 ?_
                      simp only [Act.put, pa]; try dsimp only [List.set]
                      refine readyS [16] ?_
                      refine detS undef [boxZ qa1626, boxE qe1621, valsR (.slice (some ⟨q_24_1, 0, none⟩) z1 z1) (List.replicate z1 V.zero), heapR h (HX [rowO 1 (by decide) (List.replicate k V.zero), rowO 1 (by decide) (List.replicate M V.zero), rowO 1 (by decide) [], rowO 1 (by decide) [], rowO 1 (by decide) (List.replicate z V.zero), rowO 1 (by decide) ZZ, rowO 1 (by decide) (List.replicate z1 V.zero)])] (h1 := fun Wx hSw => by (have hz := hSw.box (b := qa1626) (o := objZ) 0 rfl; refine useZ3 hz fun z0 z1 z2 y0 y1 y2 => ?_; go_simp; exact ⟨rfl, hSw.set3 0 rfl (.int .i64 0) (.int .i64 0) (.string ⟨#[]⟩)⟩)) (h2 := ?_) (hs := nilS)
                      simp only [Act.put, pa]; try dsimp only [List.set]
                      refine readyS [17] ?_
                      refine detS undef [boxZ qa1626, boxN qe1621 memoryError, valsR (.slice (some ⟨q_24_1, 0, none⟩) z1 z1) (List.replicate z1 V.zero), heapR h (HX [rowO 1 (by decide) (List.replicate k V.zero), rowO 1 (by decide) (List.replicate M V.zero), rowO 1 (by decide) [], rowO 1 (by decide) [], rowO 1 (by decide) (List.replicate z V.zero), rowO 1 (by decide) ZZ, rowO 1 (by decide) (List.replicate z1 V.zero)])] (h1 := fun Wx hSw => by (have hz := hSw.box (b := qe1621) (o := objE) 1 rfl; refine useZ5 hz fun z0 z1 z2 z3 z4 y0 y1 y2 y3 y4 => ?_; go_simp; exact ⟨rfl, hSw.set5 1 rfl (.string memoryError) (.int .i64 0) (.int .i64 0) (.string ⟨#[]⟩) (.bool false)⟩)) (h2 := ?_) (hs := nilS)
                      simp only [Act.put, pa]; try dsimp only [List.set]
                      refine doneS (h := fun w24 S => ?_)
                      go_wp2_with fail
                      go_meet
                      exact ⟨_, _, _, rfl, rfl, S⟩
                    exact nilS
                  exact nilS
                refine allocS 0 rfl (fun q => .pointer (some ⟨q, 0, none⟩)) (.cells #[.int .i64 0, .int .i64 0, .string ⟨#[]⟩] 29) (h1 := fun Wx => by go_simp) (h2 := fun qa1630 => ?_) (hs := ?_)
                · simp only [Act.put, pa]; try dsimp only [List.set]
                  try simp only [List.set_cons_zero, List.set_cons_succ]
                  refine readyS [9, 15] ?_
                  refine detS (.agg #[.int .i64 4, .int .i64 7, .string ⟨#[]⟩]) [boxZ qa1630, emptyR, valsR (.slice (some ⟨q_24_1, 0, none⟩) z1 z1) (List.replicate z1 V.zero), heapR h (HX [rowO 1 (by decide) (List.replicate k V.zero), rowO 1 (by decide) (List.replicate M V.zero), rowO 1 (by decide) [], rowO 1 (by decide) [], rowO 1 (by decide) (List.replicate z V.zero), rowO 1 (by decide) ZZ, rowO 1 (by decide) (List.replicate z1 V.zero)])] (h1 := fun Wx hSw => by (go_simp; refine symCall ?_; have hh := hSw.make 3 rfl (HG6.out.good (by simp)) (by decide) (rowO 1 (by decide) (List.replicate z1 V.zero)) (.slice (some ⟨q_24_1, 0, none⟩) z1 z1) (hSw.seesV 2 rfl) (by show (List.replicate z1 V.zero).length ≤ 4194304; rw [List.length_replicate]; have := HZ1.out; have := HZ.out; omega) rfl (show (1 : Int) ≤ 1 by decide) (show (1 : Int) ≤ 12 by decide); exact hh)) (h2 := ?_) (hs := ?_)
                  · simp only [Act.put, pa]; try dsimp only [List.set]
                    refine readyS [10, 15] ?_
                    refine detS (.tuple #[zeroV, excN memoryError]) [boxZ qa1630, emptyR, valsR (.slice (some ⟨q_24_1, 0, none⟩) z1 z1) (List.replicate z1 V.zero), heapR h (HX [rowO 1 (by decide) (List.replicate k V.zero), rowO 1 (by decide) (List.replicate M V.zero), rowO 1 (by decide) [], rowO 1 (by decide) [], rowO 1 (by decide) (List.replicate z V.zero), rowO 1 (by decide) ZZ, rowO 1 (by decide) (List.replicate z1 V.zero)])] (h1 := fun Wx hSw => by (go_simp; refine symCall ?_; exact bin_add_no hSw 3 rfl (HG7.out.good (by simp)) (by decide) (vX 2 (by decide)) (vX 7 (by decide)) rfl rfl (by show 4096 < (List.replicate M V.zero).length + (List.replicate z1 V.zero).length; rw [List.length_replicate, List.length_replicate]; have := HZ1.out; have := HZ.out; have := HF.out; omega))) (h2 := ?_) (hs := ?_)
                    · simp only [Act.put, pa]; try dsimp only [List.set]
                      refine quietS 11 ?_
                      simp only [Act.put, pa]; try dsimp only [List.set]
                      refine quietS 12 ?_
                      simp only [Act.put, pa]; try dsimp only [List.set]
                      refine quietS 13 ?_
                      simp only [Act.put, pa]; try dsimp only [List.set]
                      refine readyS [15] ?_
                      refine allocS 1 rfl (fun q => .pointer (some ⟨q, 0, none⟩)) (.cells #[.string ⟨#[]⟩, .int .i64 0, .int .i64 0, .string ⟨#[]⟩, .bool false] 38) (h1 := fun Wx => by go_simp) (h2 := fun qe1633 => ?_) (hs := nilS)
                      simp only [Act.put, pa]; try dsimp only [List.set]
                      try simp only [List.set_cons_zero, List.set_cons_succ]
                      refine readyS [16] ?_
                      refine detS undef [boxZ qa1630, boxE qe1633, valsR (.slice (some ⟨q_24_1, 0, none⟩) z1 z1) (List.replicate z1 V.zero), heapR h (HX [rowO 1 (by decide) (List.replicate k V.zero), rowO 1 (by decide) (List.replicate M V.zero), rowO 1 (by decide) [], rowO 1 (by decide) [], rowO 1 (by decide) (List.replicate z V.zero), rowO 1 (by decide) ZZ, rowO 1 (by decide) (List.replicate z1 V.zero)])] (h1 := fun Wx hSw => by (have hz := hSw.box (b := qa1630) (o := objZ) 0 rfl; refine useZ3 hz fun z0 z1 z2 y0 y1 y2 => ?_; go_simp; exact ⟨rfl, hSw.set3 0 rfl (.int .i64 0) (.int .i64 0) (.string ⟨#[]⟩)⟩)) (h2 := ?_) (hs := nilS)
                      simp only [Act.put, pa]; try dsimp only [List.set]
                      refine readyS [17] ?_
                      refine detS undef [boxZ qa1630, boxN qe1633 memoryError, valsR (.slice (some ⟨q_24_1, 0, none⟩) z1 z1) (List.replicate z1 V.zero), heapR h (HX [rowO 1 (by decide) (List.replicate k V.zero), rowO 1 (by decide) (List.replicate M V.zero), rowO 1 (by decide) [], rowO 1 (by decide) [], rowO 1 (by decide) (List.replicate z V.zero), rowO 1 (by decide) ZZ, rowO 1 (by decide) (List.replicate z1 V.zero)])] (h1 := fun Wx hSw => by (have hz := hSw.box (b := qe1633) (o := objE) 1 rfl; refine useZ5 hz fun z0 z1 z2 z3 z4 y0 y1 y2 y3 y4 => ?_; go_simp; exact ⟨rfl, hSw.set5 1 rfl (.string memoryError) (.int .i64 0) (.int .i64 0) (.string ⟨#[]⟩) (.bool false)⟩)) (h2 := ?_) (hs := nilS)
                      simp only [Act.put, pa]; try dsimp only [List.set]
                      refine doneS (h := fun w24 S => ?_)
                      go_wp2_with fail
                      go_meet
                      exact ⟨_, _, _, rfl, rfl, S⟩
                    refine allocS 1 rfl (fun q => .pointer (some ⟨q, 0, none⟩)) (.cells #[.string ⟨#[]⟩, .int .i64 0, .int .i64 0, .string ⟨#[]⟩, .bool false] 38) (h1 := fun Wx => by go_simp) (h2 := fun qe1636 => ?_) (hs := ?_)
                    · simp only [Act.put, pa]; try dsimp only [List.set]
                      try simp only [List.set_cons_zero, List.set_cons_succ]
                      refine readyS [10] ?_
                      refine detS (.tuple #[zeroV, excN memoryError]) [boxZ qa1630, boxE qe1636, valsR (.slice (some ⟨q_24_1, 0, none⟩) z1 z1) (List.replicate z1 V.zero), heapR h (HX [rowO 1 (by decide) (List.replicate k V.zero), rowO 1 (by decide) (List.replicate M V.zero), rowO 1 (by decide) [], rowO 1 (by decide) [], rowO 1 (by decide) (List.replicate z V.zero), rowO 1 (by decide) ZZ, rowO 1 (by decide) (List.replicate z1 V.zero)])] (h1 := fun Wx hSw => by (go_simp; refine symCall ?_; exact bin_add_no hSw 3 rfl (HG7.out.good (by simp)) (by decide) (vX 2 (by decide)) (vX 7 (by decide)) rfl rfl (by show 4096 < (List.replicate M V.zero).length + (List.replicate z1 V.zero).length; rw [List.length_replicate, List.length_replicate]; have := HZ1.out; have := HZ.out; have := HF.out; omega))) (h2 := ?_) (hs := nilS)
                      simp only [Act.put, pa]; try dsimp only [List.set]
                      refine quietS 11 ?_
                      simp only [Act.put, pa]; try dsimp only [List.set]
                      refine quietS 12 ?_
                      simp only [Act.put, pa]; try dsimp only [List.set]
                      refine quietS 13 ?_
                      simp only [Act.put, pa]; try dsimp only [List.set]
                      refine readyS [16] ?_
                      refine detS undef [boxZ qa1630, boxE qe1636, valsR (.slice (some ⟨q_24_1, 0, none⟩) z1 z1) (List.replicate z1 V.zero), heapR h (HX [rowO 1 (by decide) (List.replicate k V.zero), rowO 1 (by decide) (List.replicate M V.zero), rowO 1 (by decide) [], rowO 1 (by decide) [], rowO 1 (by decide) (List.replicate z V.zero), rowO 1 (by decide) ZZ, rowO 1 (by decide) (List.replicate z1 V.zero)])] (h1 := fun Wx hSw => by (have hz := hSw.box (b := qa1630) (o := objZ) 0 rfl; refine useZ3 hz fun z0 z1 z2 y0 y1 y2 => ?_; go_simp; exact ⟨rfl, hSw.set3 0 rfl (.int .i64 0) (.int .i64 0) (.string ⟨#[]⟩)⟩)) (h2 := ?_) (hs := nilS)
                      simp only [Act.put, pa]; try dsimp only [List.set]
                      refine readyS [17] ?_
                      refine detS undef [boxZ qa1630, boxN qe1636 memoryError, valsR (.slice (some ⟨q_24_1, 0, none⟩) z1 z1) (List.replicate z1 V.zero), heapR h (HX [rowO 1 (by decide) (List.replicate k V.zero), rowO 1 (by decide) (List.replicate M V.zero), rowO 1 (by decide) [], rowO 1 (by decide) [], rowO 1 (by decide) (List.replicate z V.zero), rowO 1 (by decide) ZZ, rowO 1 (by decide) (List.replicate z1 V.zero)])] (h1 := fun Wx hSw => by (have hz := hSw.box (b := qe1636) (o := objE) 1 rfl; refine useZ5 hz fun z0 z1 z2 z3 z4 y0 y1 y2 y3 y4 => ?_; go_simp; exact ⟨rfl, hSw.set5 1 rfl (.string memoryError) (.int .i64 0) (.int .i64 0) (.string ⟨#[]⟩) (.bool false)⟩)) (h2 := ?_) (hs := nilS)
                      simp only [Act.put, pa]; try dsimp only [List.set]
                      refine doneS (h := fun w24 S => ?_)
                      go_wp2_with fail
                      go_meet
                      exact ⟨_, _, _, rfl, rfl, S⟩
                    exact nilS
                  refine allocS 1 rfl (fun q => .pointer (some ⟨q, 0, none⟩)) (.cells #[.string ⟨#[]⟩, .int .i64 0, .int .i64 0, .string ⟨#[]⟩, .bool false] 38) (h1 := fun Wx => by go_simp) (h2 := fun qe1640 => ?_) (hs := ?_)
                  · simp only [Act.put, pa]; try dsimp only [List.set]
                    try simp only [List.set_cons_zero, List.set_cons_succ]
                    refine readyS [9] ?_
                    refine detS (.agg #[.int .i64 4, .int .i64 7, .string ⟨#[]⟩]) [boxZ qa1630, boxE qe1640, valsR (.slice (some ⟨q_24_1, 0, none⟩) z1 z1) (List.replicate z1 V.zero), heapR h (HX [rowO 1 (by decide) (List.replicate k V.zero), rowO 1 (by decide) (List.replicate M V.zero), rowO 1 (by decide) [], rowO 1 (by decide) [], rowO 1 (by decide) (List.replicate z V.zero), rowO 1 (by decide) ZZ, rowO 1 (by decide) (List.replicate z1 V.zero)])] (h1 := fun Wx hSw => by (go_simp; refine symCall ?_; have hh := hSw.make 3 rfl (HG6.out.good (by simp)) (by decide) (rowO 1 (by decide) (List.replicate z1 V.zero)) (.slice (some ⟨q_24_1, 0, none⟩) z1 z1) (hSw.seesV 2 rfl) (by show (List.replicate z1 V.zero).length ≤ 4194304; rw [List.length_replicate]; have := HZ1.out; have := HZ.out; omega) rfl (show (1 : Int) ≤ 1 by decide) (show (1 : Int) ≤ 12 by decide); exact hh)) (h2 := ?_) (hs := nilS)
                    simp only [Act.put, pa]; try dsimp only [List.set]
                    refine readyS [10] ?_
                    refine detS (.tuple #[zeroV, excN memoryError]) [boxZ qa1630, boxE qe1640, valsR (.slice (some ⟨q_24_1, 0, none⟩) z1 z1) (List.replicate z1 V.zero), heapR h (HX [rowO 1 (by decide) (List.replicate k V.zero), rowO 1 (by decide) (List.replicate M V.zero), rowO 1 (by decide) [], rowO 1 (by decide) [], rowO 1 (by decide) (List.replicate z V.zero), rowO 1 (by decide) ZZ, rowO 1 (by decide) (List.replicate z1 V.zero)])] (h1 := fun Wx hSw => by (go_simp; refine symCall ?_; exact bin_add_no hSw 3 rfl (HG7.out.good (by simp)) (by decide) (vX 2 (by decide)) (vX 7 (by decide)) rfl rfl (by show 4096 < (List.replicate M V.zero).length + (List.replicate z1 V.zero).length; rw [List.length_replicate, List.length_replicate]; have := HZ1.out; have := HZ.out; have := HF.out; omega))) (h2 := ?_) (hs := nilS)
                    simp only [Act.put, pa]; try dsimp only [List.set]
                    refine quietS 11 ?_
                    simp only [Act.put, pa]; try dsimp only [List.set]
                    refine quietS 12 ?_
                    simp only [Act.put, pa]; try dsimp only [List.set]
                    refine quietS 13 ?_
                    simp only [Act.put, pa]; try dsimp only [List.set]
                    refine readyS [16] ?_
                    refine detS undef [boxZ qa1630, boxE qe1640, valsR (.slice (some ⟨q_24_1, 0, none⟩) z1 z1) (List.replicate z1 V.zero), heapR h (HX [rowO 1 (by decide) (List.replicate k V.zero), rowO 1 (by decide) (List.replicate M V.zero), rowO 1 (by decide) [], rowO 1 (by decide) [], rowO 1 (by decide) (List.replicate z V.zero), rowO 1 (by decide) ZZ, rowO 1 (by decide) (List.replicate z1 V.zero)])] (h1 := fun Wx hSw => by (have hz := hSw.box (b := qa1630) (o := objZ) 0 rfl; refine useZ3 hz fun z0 z1 z2 y0 y1 y2 => ?_; go_simp; exact ⟨rfl, hSw.set3 0 rfl (.int .i64 0) (.int .i64 0) (.string ⟨#[]⟩)⟩)) (h2 := ?_) (hs := nilS)
                    simp only [Act.put, pa]; try dsimp only [List.set]
                    refine readyS [17] ?_
                    refine detS undef [boxZ qa1630, boxN qe1640 memoryError, valsR (.slice (some ⟨q_24_1, 0, none⟩) z1 z1) (List.replicate z1 V.zero), heapR h (HX [rowO 1 (by decide) (List.replicate k V.zero), rowO 1 (by decide) (List.replicate M V.zero), rowO 1 (by decide) [], rowO 1 (by decide) [], rowO 1 (by decide) (List.replicate z V.zero), rowO 1 (by decide) ZZ, rowO 1 (by decide) (List.replicate z1 V.zero)])] (h1 := fun Wx hSw => by (have hz := hSw.box (b := qe1640) (o := objE) 1 rfl; refine useZ5 hz fun z0 z1 z2 z3 z4 y0 y1 y2 y3 y4 => ?_; go_simp; exact ⟨rfl, hSw.set5 1 rfl (.string memoryError) (.int .i64 0) (.int .i64 0) (.string ⟨#[]⟩) (.bool false)⟩)) (h2 := ?_) (hs := nilS)
                    simp only [Act.put, pa]; try dsimp only [List.set]
                    refine doneS (h := fun w24 S => ?_)
                    go_wp2_with fail
                    go_meet
                    exact ⟨_, _, _, rfl, rfl, S⟩
                  exact nilS
                refine allocS 1 rfl (fun q => .pointer (some ⟨q, 0, none⟩)) (.cells #[.string ⟨#[]⟩, .int .i64 0, .int .i64 0, .string ⟨#[]⟩, .bool false] 38) (h1 := fun Wx => by go_simp) (h2 := fun qe1645 => ?_) (hs := ?_)
                · simp only [Act.put, pa]; try dsimp only [List.set]
                  try simp only [List.set_cons_zero, List.set_cons_succ]
                  refine readyS [9, 14] ?_
                  refine detS (.agg #[.int .i64 4, .int .i64 7, .string ⟨#[]⟩]) [emptyR, boxE qe1645, valsR (.slice (some ⟨q_24_1, 0, none⟩) z1 z1) (List.replicate z1 V.zero), heapR h (HX [rowO 1 (by decide) (List.replicate k V.zero), rowO 1 (by decide) (List.replicate M V.zero), rowO 1 (by decide) [], rowO 1 (by decide) [], rowO 1 (by decide) (List.replicate z V.zero), rowO 1 (by decide) ZZ, rowO 1 (by decide) (List.replicate z1 V.zero)])] (h1 := fun Wx hSw => by (go_simp; refine symCall ?_; have hh := hSw.make 3 rfl (HG6.out.good (by simp)) (by decide) (rowO 1 (by decide) (List.replicate z1 V.zero)) (.slice (some ⟨q_24_1, 0, none⟩) z1 z1) (hSw.seesV 2 rfl) (by show (List.replicate z1 V.zero).length ≤ 4194304; rw [List.length_replicate]; have := HZ1.out; have := HZ.out; omega) rfl (show (1 : Int) ≤ 1 by decide) (show (1 : Int) ≤ 12 by decide); exact hh)) (h2 := ?_) (hs := ?_)
                  · simp only [Act.put, pa]; try dsimp only [List.set]
                    refine readyS [10, 14] ?_
                    refine detS (.tuple #[zeroV, excN memoryError]) [emptyR, boxE qe1645, valsR (.slice (some ⟨q_24_1, 0, none⟩) z1 z1) (List.replicate z1 V.zero), heapR h (HX [rowO 1 (by decide) (List.replicate k V.zero), rowO 1 (by decide) (List.replicate M V.zero), rowO 1 (by decide) [], rowO 1 (by decide) [], rowO 1 (by decide) (List.replicate z V.zero), rowO 1 (by decide) ZZ, rowO 1 (by decide) (List.replicate z1 V.zero)])] (h1 := fun Wx hSw => by (go_simp; refine symCall ?_; exact bin_add_no hSw 3 rfl (HG7.out.good (by simp)) (by decide) (vX 2 (by decide)) (vX 7 (by decide)) rfl rfl (by show 4096 < (List.replicate M V.zero).length + (List.replicate z1 V.zero).length; rw [List.length_replicate, List.length_replicate]; have := HZ1.out; have := HZ.out; have := HF.out; omega))) (h2 := ?_) (hs := ?_)
                    · simp only [Act.put, pa]; try dsimp only [List.set]
                      refine quietS 11 ?_
                      simp only [Act.put, pa]; try dsimp only [List.set]
                      refine quietS 12 ?_
                      simp only [Act.put, pa]; try dsimp only [List.set]
                      refine quietS 13 ?_
                      simp only [Act.put, pa]; try dsimp only [List.set]
                      refine readyS [14] ?_
                      refine allocS 0 rfl (fun q => .pointer (some ⟨q, 0, none⟩)) (.cells #[.int .i64 0, .int .i64 0, .string ⟨#[]⟩] 29) (h1 := fun Wx => by go_simp) (h2 := fun qa1648 => ?_) (hs := nilS)
                      simp only [Act.put, pa]; try dsimp only [List.set]
                      try simp only [List.set_cons_zero, List.set_cons_succ]
                      refine readyS [16] ?_
                      refine detS undef [boxZ qa1648, boxE qe1645, valsR (.slice (some ⟨q_24_1, 0, none⟩) z1 z1) (List.replicate z1 V.zero), heapR h (HX [rowO 1 (by decide) (List.replicate k V.zero), rowO 1 (by decide) (List.replicate M V.zero), rowO 1 (by decide) [], rowO 1 (by decide) [], rowO 1 (by decide) (List.replicate z V.zero), rowO 1 (by decide) ZZ, rowO 1 (by decide) (List.replicate z1 V.zero)])] (h1 := fun Wx hSw => by (have hz := hSw.box (b := qa1648) (o := objZ) 0 rfl; refine useZ3 hz fun z0 z1 z2 y0 y1 y2 => ?_; go_simp; exact ⟨rfl, hSw.set3 0 rfl (.int .i64 0) (.int .i64 0) (.string ⟨#[]⟩)⟩)) (h2 := ?_) (hs := nilS)
                      simp only [Act.put, pa]; try dsimp only [List.set]
                      refine readyS [17] ?_
                      refine detS undef [boxZ qa1648, boxN qe1645 memoryError, valsR (.slice (some ⟨q_24_1, 0, none⟩) z1 z1) (List.replicate z1 V.zero), heapR h (HX [rowO 1 (by decide) (List.replicate k V.zero), rowO 1 (by decide) (List.replicate M V.zero), rowO 1 (by decide) [], rowO 1 (by decide) [], rowO 1 (by decide) (List.replicate z V.zero), rowO 1 (by decide) ZZ, rowO 1 (by decide) (List.replicate z1 V.zero)])] (h1 := fun Wx hSw => by (have hz := hSw.box (b := qe1645) (o := objE) 1 rfl; refine useZ5 hz fun z0 z1 z2 z3 z4 y0 y1 y2 y3 y4 => ?_; go_simp; exact ⟨rfl, hSw.set5 1 rfl (.string memoryError) (.int .i64 0) (.int .i64 0) (.string ⟨#[]⟩) (.bool false)⟩)) (h2 := ?_) (hs := nilS)
                      simp only [Act.put, pa]; try dsimp only [List.set]
                      refine doneS (h := fun w24 S => ?_)
                      go_wp2_with fail
                      go_meet
                      exact ⟨_, _, _, rfl, rfl, S⟩
                    refine allocS 0 rfl (fun q => .pointer (some ⟨q, 0, none⟩)) (.cells #[.int .i64 0, .int .i64 0, .string ⟨#[]⟩] 29) (h1 := fun Wx => by go_simp) (h2 := fun qa1651 => ?_) (hs := ?_)
                    · simp only [Act.put, pa]; try dsimp only [List.set]
                      try simp only [List.set_cons_zero, List.set_cons_succ]
                      refine readyS [10] ?_
                      refine detS (.tuple #[zeroV, excN memoryError]) [boxZ qa1651, boxE qe1645, valsR (.slice (some ⟨q_24_1, 0, none⟩) z1 z1) (List.replicate z1 V.zero), heapR h (HX [rowO 1 (by decide) (List.replicate k V.zero), rowO 1 (by decide) (List.replicate M V.zero), rowO 1 (by decide) [], rowO 1 (by decide) [], rowO 1 (by decide) (List.replicate z V.zero), rowO 1 (by decide) ZZ, rowO 1 (by decide) (List.replicate z1 V.zero)])] (h1 := fun Wx hSw => by (go_simp; refine symCall ?_; exact bin_add_no hSw 3 rfl (HG7.out.good (by simp)) (by decide) (vX 2 (by decide)) (vX 7 (by decide)) rfl rfl (by show 4096 < (List.replicate M V.zero).length + (List.replicate z1 V.zero).length; rw [List.length_replicate, List.length_replicate]; have := HZ1.out; have := HZ.out; have := HF.out; omega))) (h2 := ?_) (hs := nilS)
                      simp only [Act.put, pa]; try dsimp only [List.set]
                      refine quietS 11 ?_
                      simp only [Act.put, pa]; try dsimp only [List.set]
                      refine quietS 12 ?_
                      simp only [Act.put, pa]; try dsimp only [List.set]
                      refine quietS 13 ?_
                      simp only [Act.put, pa]; try dsimp only [List.set]
                      refine readyS [16] ?_
                      refine detS undef [boxZ qa1651, boxE qe1645, valsR (.slice (some ⟨q_24_1, 0, none⟩) z1 z1) (List.replicate z1 V.zero), heapR h (HX [rowO 1 (by decide) (List.replicate k V.zero), rowO 1 (by decide) (List.replicate M V.zero), rowO 1 (by decide) [], rowO 1 (by decide) [], rowO 1 (by decide) (List.replicate z V.zero), rowO 1 (by decide) ZZ, rowO 1 (by decide) (List.replicate z1 V.zero)])] (h1 := fun Wx hSw => by (have hz := hSw.box (b := qa1651) (o := objZ) 0 rfl; refine useZ3 hz fun z0 z1 z2 y0 y1 y2 => ?_; go_simp; exact ⟨rfl, hSw.set3 0 rfl (.int .i64 0) (.int .i64 0) (.string ⟨#[]⟩)⟩)) (h2 := ?_) (hs := nilS)
                      simp only [Act.put, pa]; try dsimp only [List.set]
                      refine readyS [17] ?_
                      refine detS undef [boxZ qa1651, boxN qe1645 memoryError, valsR (.slice (some ⟨q_24_1, 0, none⟩) z1 z1) (List.replicate z1 V.zero), heapR h (HX [rowO 1 (by decide) (List.replicate k V.zero), rowO 1 (by decide) (List.replicate M V.zero), rowO 1 (by decide) [], rowO 1 (by decide) [], rowO 1 (by decide) (List.replicate z V.zero), rowO 1 (by decide) ZZ, rowO 1 (by decide) (List.replicate z1 V.zero)])] (h1 := fun Wx hSw => by (have hz := hSw.box (b := qe1645) (o := objE) 1 rfl; refine useZ5 hz fun z0 z1 z2 z3 z4 y0 y1 y2 y3 y4 => ?_; go_simp; exact ⟨rfl, hSw.set5 1 rfl (.string memoryError) (.int .i64 0) (.int .i64 0) (.string ⟨#[]⟩) (.bool false)⟩)) (h2 := ?_) (hs := nilS)
                      simp only [Act.put, pa]; try dsimp only [List.set]
                      refine doneS (h := fun w24 S => ?_)
                      go_wp2_with fail
                      go_meet
                      exact ⟨_, _, _, rfl, rfl, S⟩
                    exact nilS
                  refine allocS 0 rfl (fun q => .pointer (some ⟨q, 0, none⟩)) (.cells #[.int .i64 0, .int .i64 0, .string ⟨#[]⟩] 29) (h1 := fun Wx => by go_simp) (h2 := fun qa1655 => ?_) (hs := ?_)
                  · simp only [Act.put, pa]; try dsimp only [List.set]
                    try simp only [List.set_cons_zero, List.set_cons_succ]
                    refine readyS [9] ?_
                    refine detS (.agg #[.int .i64 4, .int .i64 7, .string ⟨#[]⟩]) [boxZ qa1655, boxE qe1645, valsR (.slice (some ⟨q_24_1, 0, none⟩) z1 z1) (List.replicate z1 V.zero), heapR h (HX [rowO 1 (by decide) (List.replicate k V.zero), rowO 1 (by decide) (List.replicate M V.zero), rowO 1 (by decide) [], rowO 1 (by decide) [], rowO 1 (by decide) (List.replicate z V.zero), rowO 1 (by decide) ZZ, rowO 1 (by decide) (List.replicate z1 V.zero)])] (h1 := fun Wx hSw => by (go_simp; refine symCall ?_; have hh := hSw.make 3 rfl (HG6.out.good (by simp)) (by decide) (rowO 1 (by decide) (List.replicate z1 V.zero)) (.slice (some ⟨q_24_1, 0, none⟩) z1 z1) (hSw.seesV 2 rfl) (by show (List.replicate z1 V.zero).length ≤ 4194304; rw [List.length_replicate]; have := HZ1.out; have := HZ.out; omega) rfl (show (1 : Int) ≤ 1 by decide) (show (1 : Int) ≤ 12 by decide); exact hh)) (h2 := ?_) (hs := nilS)
                    simp only [Act.put, pa]; try dsimp only [List.set]
                    refine readyS [10] ?_
                    refine detS (.tuple #[zeroV, excN memoryError]) [boxZ qa1655, boxE qe1645, valsR (.slice (some ⟨q_24_1, 0, none⟩) z1 z1) (List.replicate z1 V.zero), heapR h (HX [rowO 1 (by decide) (List.replicate k V.zero), rowO 1 (by decide) (List.replicate M V.zero), rowO 1 (by decide) [], rowO 1 (by decide) [], rowO 1 (by decide) (List.replicate z V.zero), rowO 1 (by decide) ZZ, rowO 1 (by decide) (List.replicate z1 V.zero)])] (h1 := fun Wx hSw => by (go_simp; refine symCall ?_; exact bin_add_no hSw 3 rfl (HG7.out.good (by simp)) (by decide) (vX 2 (by decide)) (vX 7 (by decide)) rfl rfl (by show 4096 < (List.replicate M V.zero).length + (List.replicate z1 V.zero).length; rw [List.length_replicate, List.length_replicate]; have := HZ1.out; have := HZ.out; have := HF.out; omega))) (h2 := ?_) (hs := nilS)
                    simp only [Act.put, pa]; try dsimp only [List.set]
                    refine quietS 11 ?_
                    simp only [Act.put, pa]; try dsimp only [List.set]
                    refine quietS 12 ?_
                    simp only [Act.put, pa]; try dsimp only [List.set]
                    refine quietS 13 ?_
                    simp only [Act.put, pa]; try dsimp only [List.set]
                    refine readyS [16] ?_
                    refine detS undef [boxZ qa1655, boxE qe1645, valsR (.slice (some ⟨q_24_1, 0, none⟩) z1 z1) (List.replicate z1 V.zero), heapR h (HX [rowO 1 (by decide) (List.replicate k V.zero), rowO 1 (by decide) (List.replicate M V.zero), rowO 1 (by decide) [], rowO 1 (by decide) [], rowO 1 (by decide) (List.replicate z V.zero), rowO 1 (by decide) ZZ, rowO 1 (by decide) (List.replicate z1 V.zero)])] (h1 := fun Wx hSw => by (have hz := hSw.box (b := qa1655) (o := objZ) 0 rfl; refine useZ3 hz fun z0 z1 z2 y0 y1 y2 => ?_; go_simp; exact ⟨rfl, hSw.set3 0 rfl (.int .i64 0) (.int .i64 0) (.string ⟨#[]⟩)⟩)) (h2 := ?_) (hs := nilS)
                    simp only [Act.put, pa]; try dsimp only [List.set]
                    refine readyS [17] ?_
                    refine detS undef [boxZ qa1655, boxN qe1645 memoryError, valsR (.slice (some ⟨q_24_1, 0, none⟩) z1 z1) (List.replicate z1 V.zero), heapR h (HX [rowO 1 (by decide) (List.replicate k V.zero), rowO 1 (by decide) (List.replicate M V.zero), rowO 1 (by decide) [], rowO 1 (by decide) [], rowO 1 (by decide) (List.replicate z V.zero), rowO 1 (by decide) ZZ, rowO 1 (by decide) (List.replicate z1 V.zero)])] (h1 := fun Wx hSw => by (have hz := hSw.box (b := qe1645) (o := objE) 1 rfl; refine useZ5 hz fun z0 z1 z2 z3 z4 y0 y1 y2 y3 y4 => ?_; go_simp; exact ⟨rfl, hSw.set5 1 rfl (.string memoryError) (.int .i64 0) (.int .i64 0) (.string ⟨#[]⟩) (.bool false)⟩)) (h2 := ?_) (hs := nilS)
                    simp only [Act.put, pa]; try dsimp only [List.set]
                    refine doneS (h := fun w24 S => ?_)
                    go_wp2_with fail
                    go_meet
                    exact ⟨_, _, _, rfl, rfl, S⟩
                  exact nilS
                exact nilS
              refine allocS 0 rfl (fun q => .pointer (some ⟨q, 0, none⟩)) (.cells #[.int .i64 0, .int .i64 0, .string ⟨#[]⟩] 29) (h1 := fun Wx => by go_simp) (h2 := fun qa1660 => ?_) (hs := ?_)
              · simp only [Act.put, pa]; try dsimp only [List.set]
                try simp only [List.set_cons_zero, List.set_cons_succ]
                refine readyS [8, 15] ?_
                refine stepS (fun v E1 => ∃ (q_24_61 : Nat), v = .slice (some ⟨q_24_61, 0, none⟩) z1 z1 ∧ E1 = [boxZ qa1660, emptyR, valsR (.slice (some ⟨q_24_61, 0, none⟩) z1 z1) (List.replicate z1 V.zero), heapR h (HX [rowO 1 (by decide) (List.replicate k V.zero), rowO 1 (by decide) (List.replicate M V.zero), rowO 1 (by decide) [], rowO 1 (by decide) [], rowO 1 (by decide) (List.replicate z V.zero), rowO 1 (by decide) ZZ])]) (h1 := fun Wx hSw => by (obtain ⟨g, w2, hr, S2⟩ := Sep.makeV hSw z1 (by have := HZ1.out; have := HZ.out; omega); exact symMake _ _ _ rfl _ _ rfl rfl hr ⟨_, ⟨_, rfl, rfl⟩, S2.into 2 rfl⟩)) (h2 := fun v E1 hvE => ?_) (hs := ?_)
                · obtain ⟨q_24_61, rfl, rfl⟩ := hvE
                  simp only [Act.put, pa]; try dsimp only [List.set]
                  refine readyS [9, 15] ?_
                  refine detS (.agg #[.int .i64 4, .int .i64 7, .string ⟨#[]⟩]) [boxZ qa1660, emptyR, valsR (.slice (some ⟨q_24_61, 0, none⟩) z1 z1) (List.replicate z1 V.zero), heapR h (HX [rowO 1 (by decide) (List.replicate k V.zero), rowO 1 (by decide) (List.replicate M V.zero), rowO 1 (by decide) [], rowO 1 (by decide) [], rowO 1 (by decide) (List.replicate z V.zero), rowO 1 (by decide) ZZ, rowO 1 (by decide) (List.replicate z1 V.zero)])] (h1 := fun Wx hSw => by (go_simp; refine symCall ?_; have hh := hSw.make 3 rfl (HG6.out.good (by simp)) (by decide) (rowO 1 (by decide) (List.replicate z1 V.zero)) (.slice (some ⟨q_24_61, 0, none⟩) z1 z1) (hSw.seesV 2 rfl) (by show (List.replicate z1 V.zero).length ≤ 4194304; rw [List.length_replicate]; have := HZ1.out; have := HZ.out; omega) rfl (show (1 : Int) ≤ 1 by decide) (show (1 : Int) ≤ 12 by decide); exact hh)) (h2 := ?_) (hs := ?_)
                  · simp only [Act.put, pa]; try dsimp only [List.set]
                    refine readyS [10, 15] ?_
                    refine detS (.tuple #[zeroV, excN memoryError]) [boxZ qa1660, emptyR, valsR (.slice (some ⟨q_24_61, 0, none⟩) z1 z1) (List.replicate z1 V.zero), heapR h (HX [rowO 1 (by decide) (List.replicate k V.zero), rowO 1 (by decide) (List.replicate M V.zero), rowO 1 (by decide) [], rowO 1 (by decide) [], rowO 1 (by decide) (List.replicate z V.zero), rowO 1 (by decide) ZZ, rowO 1 (by decide) (List.replicate z1 V.zero)])] (h1 := fun Wx hSw => by (go_simp; refine symCall ?_; exact bin_add_no hSw 3 rfl (HG7.out.good (by simp)) (by decide) (vX 2 (by decide)) (vX 7 (by decide)) rfl rfl (by show 4096 < (List.replicate M V.zero).length + (List.replicate z1 V.zero).length; rw [List.length_replicate, List.length_replicate]; have := HZ1.out; have := HZ.out; have := HF.out; omega))) (h2 := ?_) (hs := ?_)
                    · simp only [Act.put, pa]; try dsimp only [List.set]
                      refine quietS 11 ?_
                      simp only [Act.put, pa]; try dsimp only [List.set]
                      refine quietS 12 ?_
                      simp only [Act.put, pa]; try dsimp only [List.set]
                      refine quietS 13 ?_
                      simp only [Act.put, pa]; try dsimp only [List.set]
                      refine readyS [15] ?_
                      refine allocS 1 rfl (fun q => .pointer (some ⟨q, 0, none⟩)) (.cells #[.string ⟨#[]⟩, .int .i64 0, .int .i64 0, .string ⟨#[]⟩, .bool false] 38) (h1 := fun Wx => by go_simp) (h2 := fun qe1664 => ?_) (hs := nilS)
                      simp only [Act.put, pa]; try dsimp only [List.set]
                      try simp only [List.set_cons_zero, List.set_cons_succ]
                      refine readyS [16] ?_
                      refine detS undef [boxZ qa1660, boxE qe1664, valsR (.slice (some ⟨q_24_61, 0, none⟩) z1 z1) (List.replicate z1 V.zero), heapR h (HX [rowO 1 (by decide) (List.replicate k V.zero), rowO 1 (by decide) (List.replicate M V.zero), rowO 1 (by decide) [], rowO 1 (by decide) [], rowO 1 (by decide) (List.replicate z V.zero), rowO 1 (by decide) ZZ, rowO 1 (by decide) (List.replicate z1 V.zero)])] (h1 := fun Wx hSw => by (have hz := hSw.box (b := qa1660) (o := objZ) 0 rfl; refine useZ3 hz fun z0 z1 z2 y0 y1 y2 => ?_; go_simp; exact ⟨rfl, hSw.set3 0 rfl (.int .i64 0) (.int .i64 0) (.string ⟨#[]⟩)⟩)) (h2 := ?_) (hs := nilS)
                      simp only [Act.put, pa]; try dsimp only [List.set]
                      refine readyS [17] ?_
                      refine detS undef [boxZ qa1660, boxN qe1664 memoryError, valsR (.slice (some ⟨q_24_61, 0, none⟩) z1 z1) (List.replicate z1 V.zero), heapR h (HX [rowO 1 (by decide) (List.replicate k V.zero), rowO 1 (by decide) (List.replicate M V.zero), rowO 1 (by decide) [], rowO 1 (by decide) [], rowO 1 (by decide) (List.replicate z V.zero), rowO 1 (by decide) ZZ, rowO 1 (by decide) (List.replicate z1 V.zero)])] (h1 := fun Wx hSw => by (have hz := hSw.box (b := qe1664) (o := objE) 1 rfl; refine useZ5 hz fun z0 z1 z2 z3 z4 y0 y1 y2 y3 y4 => ?_; go_simp; exact ⟨rfl, hSw.set5 1 rfl (.string memoryError) (.int .i64 0) (.int .i64 0) (.string ⟨#[]⟩) (.bool false)⟩)) (h2 := ?_) (hs := nilS)
                      simp only [Act.put, pa]; try dsimp only [List.set]
                      refine doneS (h := fun w24 S => ?_)
                      go_wp2_with fail
                      go_meet
                      exact ⟨_, _, _, rfl, rfl, S⟩
                    refine allocS 1 rfl (fun q => .pointer (some ⟨q, 0, none⟩)) (.cells #[.string ⟨#[]⟩, .int .i64 0, .int .i64 0, .string ⟨#[]⟩, .bool false] 38) (h1 := fun Wx => by go_simp) (h2 := fun qe1667 => ?_) (hs := ?_)
                    · simp only [Act.put, pa]; try dsimp only [List.set]
                      try simp only [List.set_cons_zero, List.set_cons_succ]
                      refine readyS [10] ?_
                      refine detS (.tuple #[zeroV, excN memoryError]) [boxZ qa1660, boxE qe1667, valsR (.slice (some ⟨q_24_61, 0, none⟩) z1 z1) (List.replicate z1 V.zero), heapR h (HX [rowO 1 (by decide) (List.replicate k V.zero), rowO 1 (by decide) (List.replicate M V.zero), rowO 1 (by decide) [], rowO 1 (by decide) [], rowO 1 (by decide) (List.replicate z V.zero), rowO 1 (by decide) ZZ, rowO 1 (by decide) (List.replicate z1 V.zero)])] (h1 := fun Wx hSw => by (go_simp; refine symCall ?_; exact bin_add_no hSw 3 rfl (HG7.out.good (by simp)) (by decide) (vX 2 (by decide)) (vX 7 (by decide)) rfl rfl (by show 4096 < (List.replicate M V.zero).length + (List.replicate z1 V.zero).length; rw [List.length_replicate, List.length_replicate]; have := HZ1.out; have := HZ.out; have := HF.out; omega))) (h2 := ?_) (hs := nilS)
                      simp only [Act.put, pa]; try dsimp only [List.set]
                      refine quietS 11 ?_
                      simp only [Act.put, pa]; try dsimp only [List.set]
                      refine quietS 12 ?_
                      simp only [Act.put, pa]; try dsimp only [List.set]
                      refine quietS 13 ?_
                      simp only [Act.put, pa]; try dsimp only [List.set]
                      refine readyS [16] ?_
                      refine detS undef [boxZ qa1660, boxE qe1667, valsR (.slice (some ⟨q_24_61, 0, none⟩) z1 z1) (List.replicate z1 V.zero), heapR h (HX [rowO 1 (by decide) (List.replicate k V.zero), rowO 1 (by decide) (List.replicate M V.zero), rowO 1 (by decide) [], rowO 1 (by decide) [], rowO 1 (by decide) (List.replicate z V.zero), rowO 1 (by decide) ZZ, rowO 1 (by decide) (List.replicate z1 V.zero)])] (h1 := fun Wx hSw => by (have hz := hSw.box (b := qa1660) (o := objZ) 0 rfl; refine useZ3 hz fun z0 z1 z2 y0 y1 y2 => ?_; go_simp; exact ⟨rfl, hSw.set3 0 rfl (.int .i64 0) (.int .i64 0) (.string ⟨#[]⟩)⟩)) (h2 := ?_) (hs := nilS)
                      simp only [Act.put, pa]; try dsimp only [List.set]
                      refine readyS [17] ?_
                      refine detS undef [boxZ qa1660, boxN qe1667 memoryError, valsR (.slice (some ⟨q_24_61, 0, none⟩) z1 z1) (List.replicate z1 V.zero), heapR h (HX [rowO 1 (by decide) (List.replicate k V.zero), rowO 1 (by decide) (List.replicate M V.zero), rowO 1 (by decide) [], rowO 1 (by decide) [], rowO 1 (by decide) (List.replicate z V.zero), rowO 1 (by decide) ZZ, rowO 1 (by decide) (List.replicate z1 V.zero)])] (h1 := fun Wx hSw => by (have hz := hSw.box (b := qe1667) (o := objE) 1 rfl; refine useZ5 hz fun z0 z1 z2 z3 z4 y0 y1 y2 y3 y4 => ?_; go_simp; exact ⟨rfl, hSw.set5 1 rfl (.string memoryError) (.int .i64 0) (.int .i64 0) (.string ⟨#[]⟩) (.bool false)⟩)) (h2 := ?_) (hs := nilS)
                      simp only [Act.put, pa]; try dsimp only [List.set]
                      refine doneS (h := fun w24 S => ?_)
                      go_wp2_with fail
                      go_meet
                      exact ⟨_, _, _, rfl, rfl, S⟩
                    exact nilS
                  refine allocS 1 rfl (fun q => .pointer (some ⟨q, 0, none⟩)) (.cells #[.string ⟨#[]⟩, .int .i64 0, .int .i64 0, .string ⟨#[]⟩, .bool false] 38) (h1 := fun Wx => by go_simp) (h2 := fun qe1671 => ?_) (hs := ?_)
                  · simp only [Act.put, pa]; try dsimp only [List.set]
                    try simp only [List.set_cons_zero, List.set_cons_succ]
                    refine readyS [9] ?_
                    refine detS (.agg #[.int .i64 4, .int .i64 7, .string ⟨#[]⟩]) [boxZ qa1660, boxE qe1671, valsR (.slice (some ⟨q_24_61, 0, none⟩) z1 z1) (List.replicate z1 V.zero), heapR h (HX [rowO 1 (by decide) (List.replicate k V.zero), rowO 1 (by decide) (List.replicate M V.zero), rowO 1 (by decide) [], rowO 1 (by decide) [], rowO 1 (by decide) (List.replicate z V.zero), rowO 1 (by decide) ZZ, rowO 1 (by decide) (List.replicate z1 V.zero)])] (h1 := fun Wx hSw => by (go_simp; refine symCall ?_; have hh := hSw.make 3 rfl (HG6.out.good (by simp)) (by decide) (rowO 1 (by decide) (List.replicate z1 V.zero)) (.slice (some ⟨q_24_61, 0, none⟩) z1 z1) (hSw.seesV 2 rfl) (by show (List.replicate z1 V.zero).length ≤ 4194304; rw [List.length_replicate]; have := HZ1.out; have := HZ.out; omega) rfl (show (1 : Int) ≤ 1 by decide) (show (1 : Int) ≤ 12 by decide); exact hh)) (h2 := ?_) (hs := nilS)
                    simp only [Act.put, pa]; try dsimp only [List.set]
                    refine readyS [10] ?_
                    refine detS (.tuple #[zeroV, excN memoryError]) [boxZ qa1660, boxE qe1671, valsR (.slice (some ⟨q_24_61, 0, none⟩) z1 z1) (List.replicate z1 V.zero), heapR h (HX [rowO 1 (by decide) (List.replicate k V.zero), rowO 1 (by decide) (List.replicate M V.zero), rowO 1 (by decide) [], rowO 1 (by decide) [], rowO 1 (by decide) (List.replicate z V.zero), rowO 1 (by decide) ZZ, rowO 1 (by decide) (List.replicate z1 V.zero)])] (h1 := fun Wx hSw => by (go_simp; refine symCall ?_; exact bin_add_no hSw 3 rfl (HG7.out.good (by simp)) (by decide) (vX 2 (by decide)) (vX 7 (by decide)) rfl rfl (by show 4096 < (List.replicate M V.zero).length + (List.replicate z1 V.zero).length; rw [List.length_replicate, List.length_replicate]; have := HZ1.out; have := HZ.out; have := HF.out; omega))) (h2 := ?_) (hs := nilS)
                    simp only [Act.put, pa]; try dsimp only [List.set]
                    refine quietS 11 ?_
                    simp only [Act.put, pa]; try dsimp only [List.set]
                    refine quietS 12 ?_
                    simp only [Act.put, pa]; try dsimp only [List.set]
                    refine quietS 13 ?_
                    simp only [Act.put, pa]; try dsimp only [List.set]
                    refine readyS [16] ?_
                    refine detS undef [boxZ qa1660, boxE qe1671, valsR (.slice (some ⟨q_24_61, 0, none⟩) z1 z1) (List.replicate z1 V.zero), heapR h (HX [rowO 1 (by decide) (List.replicate k V.zero), rowO 1 (by decide) (List.replicate M V.zero), rowO 1 (by decide) [], rowO 1 (by decide) [], rowO 1 (by decide) (List.replicate z V.zero), rowO 1 (by decide) ZZ, rowO 1 (by decide) (List.replicate z1 V.zero)])] (h1 := fun Wx hSw => by (have hz := hSw.box (b := qa1660) (o := objZ) 0 rfl; refine useZ3 hz fun z0 z1 z2 y0 y1 y2 => ?_; go_simp; exact ⟨rfl, hSw.set3 0 rfl (.int .i64 0) (.int .i64 0) (.string ⟨#[]⟩)⟩)) (h2 := ?_) (hs := nilS)
                    simp only [Act.put, pa]; try dsimp only [List.set]
                    refine readyS [17] ?_
                    refine detS undef [boxZ qa1660, boxN qe1671 memoryError, valsR (.slice (some ⟨q_24_61, 0, none⟩) z1 z1) (List.replicate z1 V.zero), heapR h (HX [rowO 1 (by decide) (List.replicate k V.zero), rowO 1 (by decide) (List.replicate M V.zero), rowO 1 (by decide) [], rowO 1 (by decide) [], rowO 1 (by decide) (List.replicate z V.zero), rowO 1 (by decide) ZZ, rowO 1 (by decide) (List.replicate z1 V.zero)])] (h1 := fun Wx hSw => by (have hz := hSw.box (b := qe1671) (o := objE) 1 rfl; refine useZ5 hz fun z0 z1 z2 z3 z4 y0 y1 y2 y3 y4 => ?_; go_simp; exact ⟨rfl, hSw.set5 1 rfl (.string memoryError) (.int .i64 0) (.int .i64 0) (.string ⟨#[]⟩) (.bool false)⟩)) (h2 := ?_) (hs := nilS)
                    simp only [Act.put, pa]; try dsimp only [List.set]
                    refine doneS (h := fun w24 S => ?_)
                    go_wp2_with fail
                    go_meet
                    exact ⟨_, _, _, rfl, rfl, S⟩
                  exact nilS
                refine allocS 1 rfl (fun q => .pointer (some ⟨q, 0, none⟩)) (.cells #[.string ⟨#[]⟩, .int .i64 0, .int .i64 0, .string ⟨#[]⟩, .bool false] 38) (h1 := fun Wx => by go_simp) (h2 := fun qe1676 => ?_) (hs := ?_)
                · simp only [Act.put, pa]; try dsimp only [List.set]
                  try simp only [List.set_cons_zero, List.set_cons_succ]
                  refine readyS [8] ?_
                  refine stepS (fun v E1 => ∃ (q_24_77 : Nat), v = .slice (some ⟨q_24_77, 0, none⟩) z1 z1 ∧ E1 = [boxZ qa1660, boxE qe1676, valsR (.slice (some ⟨q_24_77, 0, none⟩) z1 z1) (List.replicate z1 V.zero), heapR h (HX [rowO 1 (by decide) (List.replicate k V.zero), rowO 1 (by decide) (List.replicate M V.zero), rowO 1 (by decide) [], rowO 1 (by decide) [], rowO 1 (by decide) (List.replicate z V.zero), rowO 1 (by decide) ZZ])]) (h1 := fun Wx hSw => by (obtain ⟨g, w2, hr, S2⟩ := Sep.makeV hSw z1 (by have := HZ1.out; have := HZ.out; omega); exact symMake _ _ _ rfl _ _ rfl rfl hr ⟨_, ⟨_, rfl, rfl⟩, S2.into 2 rfl⟩)) (h2 := fun v E1 hvE => ?_) (hs := nilS)
                  obtain ⟨q_24_77, rfl, rfl⟩ := hvE
                  simp only [Act.put, pa]; try dsimp only [List.set]
                  refine readyS [9] ?_
                  refine detS (.agg #[.int .i64 4, .int .i64 7, .string ⟨#[]⟩]) [boxZ qa1660, boxE qe1676, valsR (.slice (some ⟨q_24_77, 0, none⟩) z1 z1) (List.replicate z1 V.zero), heapR h (HX [rowO 1 (by decide) (List.replicate k V.zero), rowO 1 (by decide) (List.replicate M V.zero), rowO 1 (by decide) [], rowO 1 (by decide) [], rowO 1 (by decide) (List.replicate z V.zero), rowO 1 (by decide) ZZ, rowO 1 (by decide) (List.replicate z1 V.zero)])] (h1 := fun Wx hSw => by (go_simp; refine symCall ?_; have hh := hSw.make 3 rfl (HG6.out.good (by simp)) (by decide) (rowO 1 (by decide) (List.replicate z1 V.zero)) (.slice (some ⟨q_24_77, 0, none⟩) z1 z1) (hSw.seesV 2 rfl) (by show (List.replicate z1 V.zero).length ≤ 4194304; rw [List.length_replicate]; have := HZ1.out; have := HZ.out; omega) rfl (show (1 : Int) ≤ 1 by decide) (show (1 : Int) ≤ 12 by decide); exact hh)) (h2 := ?_) (hs := nilS)
                  simp only [Act.put, pa]; try dsimp only [List.set]
                  refine readyS [10] ?_
                  refine detS (.tuple #[zeroV, excN memoryError]) [boxZ qa1660, boxE qe1676, valsR (.slice (some ⟨q_24_77, 0, none⟩) z1 z1) (List.replicate z1 V.zero), heapR h (HX [rowO 1 (by decide) (List.replicate k V.zero), rowO 1 (by decide) (List.replicate M V.zero), rowO 1 (by decide) [], rowO 1 (by decide) [], rowO 1 (by decide) (List.replicate z V.zero), rowO 1 (by decide) ZZ, rowO 1 (by decide) (List.replicate z1 V.zero)])] (h1 := fun Wx hSw => by (go_simp; refine symCall ?_; exact bin_add_no hSw 3 rfl (HG7.out.good (by simp)) (by decide) (vX 2 (by decide)) (vX 7 (by decide)) rfl rfl (by show 4096 < (List.replicate M V.zero).length + (List.replicate z1 V.zero).length; rw [List.length_replicate, List.length_replicate]; have := HZ1.out; have := HZ.out; have := HF.out; omega))) (h2 := ?_) (hs := nilS)
                  simp only [Act.put, pa]; try dsimp only [List.set]
                  refine quietS 11 ?_
                  simp only [Act.put, pa]; try dsimp only [List.set]
                  refine quietS 12 ?_
                  simp only [Act.put, pa]; try dsimp only [List.set]
                  refine quietS 13 ?_
                  simp only [Act.put, pa]; try dsimp only [List.set]
                  refine readyS [16] ?_
                  refine detS undef [boxZ qa1660, boxE qe1676, valsR (.slice (some ⟨q_24_77, 0, none⟩) z1 z1) (List.replicate z1 V.zero), heapR h (HX [rowO 1 (by decide) (List.replicate k V.zero), rowO 1 (by decide) (List.replicate M V.zero), rowO 1 (by decide) [], rowO 1 (by decide) [], rowO 1 (by decide) (List.replicate z V.zero), rowO 1 (by decide) ZZ, rowO 1 (by decide) (List.replicate z1 V.zero)])] (h1 := fun Wx hSw => by (have hz := hSw.box (b := qa1660) (o := objZ) 0 rfl; refine useZ3 hz fun z0 z1 z2 y0 y1 y2 => ?_; go_simp; exact ⟨rfl, hSw.set3 0 rfl (.int .i64 0) (.int .i64 0) (.string ⟨#[]⟩)⟩)) (h2 := ?_) (hs := nilS)
                  simp only [Act.put, pa]; try dsimp only [List.set]
                  refine readyS [17] ?_
                  refine detS undef [boxZ qa1660, boxN qe1676 memoryError, valsR (.slice (some ⟨q_24_77, 0, none⟩) z1 z1) (List.replicate z1 V.zero), heapR h (HX [rowO 1 (by decide) (List.replicate k V.zero), rowO 1 (by decide) (List.replicate M V.zero), rowO 1 (by decide) [], rowO 1 (by decide) [], rowO 1 (by decide) (List.replicate z V.zero), rowO 1 (by decide) ZZ, rowO 1 (by decide) (List.replicate z1 V.zero)])] (h1 := fun Wx hSw => by (have hz := hSw.box (b := qe1676) (o := objE) 1 rfl; refine useZ5 hz fun z0 z1 z2 z3 z4 y0 y1 y2 y3 y4 => ?_; go_simp; exact ⟨rfl, hSw.set5 1 rfl (.string memoryError) (.int .i64 0) (.int .i64 0) (.string ⟨#[]⟩) (.bool false)⟩)) (h2 := ?_) (hs := nilS)
                  simp only [Act.put, pa]; try dsimp only [List.set]
                  refine doneS (h := fun w24 S => ?_)
                  go_wp2_with fail
                  go_meet
                  exact ⟨_, _, _, rfl, rfl, S⟩
                exact nilS
              refine allocS 1 rfl (fun q => .pointer (some ⟨q, 0, none⟩)) (.cells #[.string ⟨#[]⟩, .int .i64 0, .int .i64 0, .string ⟨#[]⟩, .bool false] 38) (h1 := fun Wx => by go_simp) (h2 := fun qe1682 => ?_) (hs := ?_)
              · simp only [Act.put, pa]; try dsimp only [List.set]
                try simp only [List.set_cons_zero, List.set_cons_succ]
                refine readyS [8, 14] ?_
                refine stepS (fun v E1 => ∃ (q_24_83 : Nat), v = .slice (some ⟨q_24_83, 0, none⟩) z1 z1 ∧ E1 = [emptyR, boxE qe1682, valsR (.slice (some ⟨q_24_83, 0, none⟩) z1 z1) (List.replicate z1 V.zero), heapR h (HX [rowO 1 (by decide) (List.replicate k V.zero), rowO 1 (by decide) (List.replicate M V.zero), rowO 1 (by decide) [], rowO 1 (by decide) [], rowO 1 (by decide) (List.replicate z V.zero), rowO 1 (by decide) ZZ])]) (h1 := fun Wx hSw => by (obtain ⟨g, w2, hr, S2⟩ := Sep.makeV hSw z1 (by have := HZ1.out; have := HZ.out; omega); exact symMake _ _ _ rfl _ _ rfl rfl hr ⟨_, ⟨_, rfl, rfl⟩, S2.into 2 rfl⟩)) (h2 := fun v E1 hvE => ?_) (hs := ?_)
                · obtain ⟨q_24_83, rfl, rfl⟩ := hvE
                  simp only [Act.put, pa]; try dsimp only [List.set]
                  refine readyS [9, 14] ?_
                  refine detS (.agg #[.int .i64 4, .int .i64 7, .string ⟨#[]⟩]) [emptyR, boxE qe1682, valsR (.slice (some ⟨q_24_83, 0, none⟩) z1 z1) (List.replicate z1 V.zero), heapR h (HX [rowO 1 (by decide) (List.replicate k V.zero), rowO 1 (by decide) (List.replicate M V.zero), rowO 1 (by decide) [], rowO 1 (by decide) [], rowO 1 (by decide) (List.replicate z V.zero), rowO 1 (by decide) ZZ, rowO 1 (by decide) (List.replicate z1 V.zero)])] (h1 := fun Wx hSw => by (go_simp; refine symCall ?_; have hh := hSw.make 3 rfl (HG6.out.good (by simp)) (by decide) (rowO 1 (by decide) (List.replicate z1 V.zero)) (.slice (some ⟨q_24_83, 0, none⟩) z1 z1) (hSw.seesV 2 rfl) (by show (List.replicate z1 V.zero).length ≤ 4194304; rw [List.length_replicate]; have := HZ1.out; have := HZ.out; omega) rfl (show (1 : Int) ≤ 1 by decide) (show (1 : Int) ≤ 12 by decide); exact hh)) (h2 := ?_) (hs := ?_)
                  · simp only [Act.put, pa]; try dsimp only [List.set]
                    refine readyS [10, 14] ?_
                    refine detS (.tuple #[zeroV, excN memoryError]) [emptyR, boxE qe1682, valsR (.slice (some ⟨q_24_83, 0, none⟩) z1 z1) (List.replicate z1 V.zero), heapR h (HX [rowO 1 (by decide) (List.replicate k V.zero), rowO 1 (by decide) (List.replicate M V.zero), rowO 1 (by decide) [], rowO 1 (by decide) [], rowO 1 (by decide) (List.replicate z V.zero), rowO 1 (by decide) ZZ, rowO 1 (by decide) (List.replicate z1 V.zero)])] (h1 := fun Wx hSw => by (go_simp; refine symCall ?_; exact bin_add_no hSw 3 rfl (HG7.out.good (by simp)) (by decide) (vX 2 (by decide)) (vX 7 (by decide)) rfl rfl (by show 4096 < (List.replicate M V.zero).length + (List.replicate z1 V.zero).length; rw [List.length_replicate, List.length_replicate]; have := HZ1.out; have := HZ.out; have := HF.out; omega))) (h2 := ?_) (hs := ?_)
                    · simp only [Act.put, pa]; try dsimp only [List.set]
                      refine quietS 11 ?_
                      simp only [Act.put, pa]; try dsimp only [List.set]
                      refine quietS 12 ?_
                      simp only [Act.put, pa]; try dsimp only [List.set]
                      refine quietS 13 ?_
                      simp only [Act.put, pa]; try dsimp only [List.set]
                      refine readyS [14] ?_
                      refine allocS 0 rfl (fun q => .pointer (some ⟨q, 0, none⟩)) (.cells #[.int .i64 0, .int .i64 0, .string ⟨#[]⟩] 29) (h1 := fun Wx => by go_simp) (h2 := fun qa1686 => ?_) (hs := nilS)
                      simp only [Act.put, pa]; try dsimp only [List.set]
                      try simp only [List.set_cons_zero, List.set_cons_succ]
                      refine readyS [16] ?_
                      refine detS undef [boxZ qa1686, boxE qe1682, valsR (.slice (some ⟨q_24_83, 0, none⟩) z1 z1) (List.replicate z1 V.zero), heapR h (HX [rowO 1 (by decide) (List.replicate k V.zero), rowO 1 (by decide) (List.replicate M V.zero), rowO 1 (by decide) [], rowO 1 (by decide) [], rowO 1 (by decide) (List.replicate z V.zero), rowO 1 (by decide) ZZ, rowO 1 (by decide) (List.replicate z1 V.zero)])] (h1 := fun Wx hSw => by (have hz := hSw.box (b := qa1686) (o := objZ) 0 rfl; refine useZ3 hz fun z0 z1 z2 y0 y1 y2 => ?_; go_simp; exact ⟨rfl, hSw.set3 0 rfl (.int .i64 0) (.int .i64 0) (.string ⟨#[]⟩)⟩)) (h2 := ?_) (hs := nilS)
                      simp only [Act.put, pa]; try dsimp only [List.set]
                      refine readyS [17] ?_
                      refine detS undef [boxZ qa1686, boxN qe1682 memoryError, valsR (.slice (some ⟨q_24_83, 0, none⟩) z1 z1) (List.replicate z1 V.zero), heapR h (HX [rowO 1 (by decide) (List.replicate k V.zero), rowO 1 (by decide) (List.replicate M V.zero), rowO 1 (by decide) [], rowO 1 (by decide) [], rowO 1 (by decide) (List.replicate z V.zero), rowO 1 (by decide) ZZ, rowO 1 (by decide) (List.replicate z1 V.zero)])] (h1 := fun Wx hSw => by (have hz := hSw.box (b := qe1682) (o := objE) 1 rfl; refine useZ5 hz fun z0 z1 z2 z3 z4 y0 y1 y2 y3 y4 => ?_; go_simp; exact ⟨rfl, hSw.set5 1 rfl (.string memoryError) (.int .i64 0) (.int .i64 0) (.string ⟨#[]⟩) (.bool false)⟩)) (h2 := ?_) (hs := nilS)
                      simp only [Act.put, pa]; try dsimp only [List.set]
                      refine doneS (h := fun w24 S => ?_)
                      go_wp2_with fail
                      go_meet
                      exact ⟨_, _, _, rfl, rfl, S⟩
                    refine allocS 0 rfl (fun q => .pointer (some ⟨q, 0, none⟩)) (.cells #[.int .i64 0, .int .i64 0, .string ⟨#[]⟩] 29) (h1 := fun Wx => by go_simp) (h2 := fun qa1689 => ?_) (hs := ?_)
                    · simp only [Act.put, pa]; try dsimp only [List.set]
                      try simp only [List.set_cons_zero, List.set_cons_succ]
                      refine readyS [10] ?_
                      refine detS (.tuple #[zeroV, excN memoryError]) [boxZ qa1689, boxE qe1682, valsR (.slice (some ⟨q_24_83, 0, none⟩) z1 z1) (List.replicate z1 V.zero), heapR h (HX [rowO 1 (by decide) (List.replicate k V.zero), rowO 1 (by decide) (List.replicate M V.zero), rowO 1 (by decide) [], rowO 1 (by decide) [], rowO 1 (by decide) (List.replicate z V.zero), rowO 1 (by decide) ZZ, rowO 1 (by decide) (List.replicate z1 V.zero)])] (h1 := fun Wx hSw => by (go_simp; refine symCall ?_; exact bin_add_no hSw 3 rfl (HG7.out.good (by simp)) (by decide) (vX 2 (by decide)) (vX 7 (by decide)) rfl rfl (by show 4096 < (List.replicate M V.zero).length + (List.replicate z1 V.zero).length; rw [List.length_replicate, List.length_replicate]; have := HZ1.out; have := HZ.out; have := HF.out; omega))) (h2 := ?_) (hs := nilS)
                      simp only [Act.put, pa]; try dsimp only [List.set]
                      refine quietS 11 ?_
                      simp only [Act.put, pa]; try dsimp only [List.set]
                      refine quietS 12 ?_
                      simp only [Act.put, pa]; try dsimp only [List.set]
                      refine quietS 13 ?_
                      simp only [Act.put, pa]; try dsimp only [List.set]
                      refine readyS [16] ?_
                      refine detS undef [boxZ qa1689, boxE qe1682, valsR (.slice (some ⟨q_24_83, 0, none⟩) z1 z1) (List.replicate z1 V.zero), heapR h (HX [rowO 1 (by decide) (List.replicate k V.zero), rowO 1 (by decide) (List.replicate M V.zero), rowO 1 (by decide) [], rowO 1 (by decide) [], rowO 1 (by decide) (List.replicate z V.zero), rowO 1 (by decide) ZZ, rowO 1 (by decide) (List.replicate z1 V.zero)])] (h1 := fun Wx hSw => by (have hz := hSw.box (b := qa1689) (o := objZ) 0 rfl; refine useZ3 hz fun z0 z1 z2 y0 y1 y2 => ?_; go_simp; exact ⟨rfl, hSw.set3 0 rfl (.int .i64 0) (.int .i64 0) (.string ⟨#[]⟩)⟩)) (h2 := ?_) (hs := nilS)
                      simp only [Act.put, pa]; try dsimp only [List.set]
                      refine readyS [17] ?_
                      refine detS undef [boxZ qa1689, boxN qe1682 memoryError, valsR (.slice (some ⟨q_24_83, 0, none⟩) z1 z1) (List.replicate z1 V.zero), heapR h (HX [rowO 1 (by decide) (List.replicate k V.zero), rowO 1 (by decide) (List.replicate M V.zero), rowO 1 (by decide) [], rowO 1 (by decide) [], rowO 1 (by decide) (List.replicate z V.zero), rowO 1 (by decide) ZZ, rowO 1 (by decide) (List.replicate z1 V.zero)])] (h1 := fun Wx hSw => by (have hz := hSw.box (b := qe1682) (o := objE) 1 rfl; refine useZ5 hz fun z0 z1 z2 z3 z4 y0 y1 y2 y3 y4 => ?_; go_simp; exact ⟨rfl, hSw.set5 1 rfl (.string memoryError) (.int .i64 0) (.int .i64 0) (.string ⟨#[]⟩) (.bool false)⟩)) (h2 := ?_) (hs := nilS)
                      simp only [Act.put, pa]; try dsimp only [List.set]
                      refine doneS (h := fun w24 S => ?_)
                      go_wp2_with fail
                      go_meet
                      exact ⟨_, _, _, rfl, rfl, S⟩
                    exact nilS
                  refine allocS 0 rfl (fun q => .pointer (some ⟨q, 0, none⟩)) (.cells #[.int .i64 0, .int .i64 0, .string ⟨#[]⟩] 29) (h1 := fun Wx => by go_simp) (h2 := fun qa1693 => ?_) (hs := ?_)
                  · simp only [Act.put, pa]; try dsimp only [List.set]
                    try simp only [List.set_cons_zero, List.set_cons_succ]
                    refine readyS [9] ?_
                    refine detS (.agg #[.int .i64 4, .int .i64 7, .string ⟨#[]⟩]) [boxZ qa1693, boxE qe1682, valsR (.slice (some ⟨q_24_83, 0, none⟩) z1 z1) (List.replicate z1 V.zero), heapR h (HX [rowO 1 (by decide) (List.replicate k V.zero), rowO 1 (by decide) (List.replicate M V.zero), rowO 1 (by decide) [], rowO 1 (by decide) [], rowO 1 (by decide) (List.replicate z V.zero), rowO 1 (by decide) ZZ, rowO 1 (by decide) (List.replicate z1 V.zero)])] (h1 := fun Wx hSw => by (go_simp; refine symCall ?_; have hh := hSw.make 3 rfl (HG6.out.good (by simp)) (by decide) (rowO 1 (by decide) (List.replicate z1 V.zero)) (.slice (some ⟨q_24_83, 0, none⟩) z1 z1) (hSw.seesV 2 rfl) (by show (List.replicate z1 V.zero).length ≤ 4194304; rw [List.length_replicate]; have := HZ1.out; have := HZ.out; omega) rfl (show (1 : Int) ≤ 1 by decide) (show (1 : Int) ≤ 12 by decide); exact hh)) (h2 := ?_) (hs := nilS)
                    simp only [Act.put, pa]; try dsimp only [List.set]
                    refine readyS [10] ?_
                    refine detS (.tuple #[zeroV, excN memoryError]) [boxZ qa1693, boxE qe1682, valsR (.slice (some ⟨q_24_83, 0, none⟩) z1 z1) (List.replicate z1 V.zero), heapR h (HX [rowO 1 (by decide) (List.replicate k V.zero), rowO 1 (by decide) (List.replicate M V.zero), rowO 1 (by decide) [], rowO 1 (by decide) [], rowO 1 (by decide) (List.replicate z V.zero), rowO 1 (by decide) ZZ, rowO 1 (by decide) (List.replicate z1 V.zero)])] (h1 := fun Wx hSw => by (go_simp; refine symCall ?_; exact bin_add_no hSw 3 rfl (HG7.out.good (by simp)) (by decide) (vX 2 (by decide)) (vX 7 (by decide)) rfl rfl (by show 4096 < (List.replicate M V.zero).length + (List.replicate z1 V.zero).length; rw [List.length_replicate, List.length_replicate]; have := HZ1.out; have := HZ.out; have := HF.out; omega))) (h2 := ?_) (hs := nilS)
                    simp only [Act.put, pa]; try dsimp only [List.set]
                    refine quietS 11 ?_
                    simp only [Act.put, pa]; try dsimp only [List.set]
                    refine quietS 12 ?_
                    simp only [Act.put, pa]; try dsimp only [List.set]
                    refine quietS 13 ?_
                    simp only [Act.put, pa]; try dsimp only [List.set]
                    refine readyS [16] ?_
                    refine detS undef [boxZ qa1693, boxE qe1682, valsR (.slice (some ⟨q_24_83, 0, none⟩) z1 z1) (List.replicate z1 V.zero), heapR h (HX [rowO 1 (by decide) (List.replicate k V.zero), rowO 1 (by decide) (List.replicate M V.zero), rowO 1 (by decide) [], rowO 1 (by decide) [], rowO 1 (by decide) (List.replicate z V.zero), rowO 1 (by decide) ZZ, rowO 1 (by decide) (List.replicate z1 V.zero)])] (h1 := fun Wx hSw => by (have hz := hSw.box (b := qa1693) (o := objZ) 0 rfl; refine useZ3 hz fun z0 z1 z2 y0 y1 y2 => ?_; go_simp; exact ⟨rfl, hSw.set3 0 rfl (.int .i64 0) (.int .i64 0) (.string ⟨#[]⟩)⟩)) (h2 := ?_) (hs := nilS)
                    simp only [Act.put, pa]; try dsimp only [List.set]
                    refine readyS [17] ?_
                    refine detS undef [boxZ qa1693, boxN qe1682 memoryError, valsR (.slice (some ⟨q_24_83, 0, none⟩) z1 z1) (List.replicate z1 V.zero), heapR h (HX [rowO 1 (by decide) (List.replicate k V.zero), rowO 1 (by decide) (List.replicate M V.zero), rowO 1 (by decide) [], rowO 1 (by decide) [], rowO 1 (by decide) (List.replicate z V.zero), rowO 1 (by decide) ZZ, rowO 1 (by decide) (List.replicate z1 V.zero)])] (h1 := fun Wx hSw => by (have hz := hSw.box (b := qe1682) (o := objE) 1 rfl; refine useZ5 hz fun z0 z1 z2 z3 z4 y0 y1 y2 y3 y4 => ?_; go_simp; exact ⟨rfl, hSw.set5 1 rfl (.string memoryError) (.int .i64 0) (.int .i64 0) (.string ⟨#[]⟩) (.bool false)⟩)) (h2 := ?_) (hs := nilS)
                    simp only [Act.put, pa]; try dsimp only [List.set]
                    refine doneS (h := fun w24 S => ?_)
                    go_wp2_with fail
                    go_meet
                    exact ⟨_, _, _, rfl, rfl, S⟩
                  exact nilS
                refine allocS 0 rfl (fun q => .pointer (some ⟨q, 0, none⟩)) (.cells #[.int .i64 0, .int .i64 0, .string ⟨#[]⟩] 29) (h1 := fun Wx => by go_simp) (h2 := fun qa1698 => ?_) (hs := ?_)
                · simp only [Act.put, pa]; try dsimp only [List.set]
                  try simp only [List.set_cons_zero, List.set_cons_succ]
                  refine readyS [8] ?_
                  refine stepS (fun v E1 => ∃ (q_24_99 : Nat), v = .slice (some ⟨q_24_99, 0, none⟩) z1 z1 ∧ E1 = [boxZ qa1698, boxE qe1682, valsR (.slice (some ⟨q_24_99, 0, none⟩) z1 z1) (List.replicate z1 V.zero), heapR h (HX [rowO 1 (by decide) (List.replicate k V.zero), rowO 1 (by decide) (List.replicate M V.zero), rowO 1 (by decide) [], rowO 1 (by decide) [], rowO 1 (by decide) (List.replicate z V.zero), rowO 1 (by decide) ZZ])]) (h1 := fun Wx hSw => by (obtain ⟨g, w2, hr, S2⟩ := Sep.makeV hSw z1 (by have := HZ1.out; have := HZ.out; omega); exact symMake _ _ _ rfl _ _ rfl rfl hr ⟨_, ⟨_, rfl, rfl⟩, S2.into 2 rfl⟩)) (h2 := fun v E1 hvE => ?_) (hs := nilS)
                  obtain ⟨q_24_99, rfl, rfl⟩ := hvE
                  simp only [Act.put, pa]; try dsimp only [List.set]
                  refine readyS [9] ?_
                  refine detS (.agg #[.int .i64 4, .int .i64 7, .string ⟨#[]⟩]) [boxZ qa1698, boxE qe1682, valsR (.slice (some ⟨q_24_99, 0, none⟩) z1 z1) (List.replicate z1 V.zero), heapR h (HX [rowO 1 (by decide) (List.replicate k V.zero), rowO 1 (by decide) (List.replicate M V.zero), rowO 1 (by decide) [], rowO 1 (by decide) [], rowO 1 (by decide) (List.replicate z V.zero), rowO 1 (by decide) ZZ, rowO 1 (by decide) (List.replicate z1 V.zero)])] (h1 := fun Wx hSw => by (go_simp; refine symCall ?_; have hh := hSw.make 3 rfl (HG6.out.good (by simp)) (by decide) (rowO 1 (by decide) (List.replicate z1 V.zero)) (.slice (some ⟨q_24_99, 0, none⟩) z1 z1) (hSw.seesV 2 rfl) (by show (List.replicate z1 V.zero).length ≤ 4194304; rw [List.length_replicate]; have := HZ1.out; have := HZ.out; omega) rfl (show (1 : Int) ≤ 1 by decide) (show (1 : Int) ≤ 12 by decide); exact hh)) (h2 := ?_) (hs := nilS)
                  simp only [Act.put, pa]; try dsimp only [List.set]
                  refine readyS [10] ?_
                  refine detS (.tuple #[zeroV, excN memoryError]) [boxZ qa1698, boxE qe1682, valsR (.slice (some ⟨q_24_99, 0, none⟩) z1 z1) (List.replicate z1 V.zero), heapR h (HX [rowO 1 (by decide) (List.replicate k V.zero), rowO 1 (by decide) (List.replicate M V.zero), rowO 1 (by decide) [], rowO 1 (by decide) [], rowO 1 (by decide) (List.replicate z V.zero), rowO 1 (by decide) ZZ, rowO 1 (by decide) (List.replicate z1 V.zero)])] (h1 := fun Wx hSw => by (go_simp; refine symCall ?_; exact bin_add_no hSw 3 rfl (HG7.out.good (by simp)) (by decide) (vX 2 (by decide)) (vX 7 (by decide)) rfl rfl (by show 4096 < (List.replicate M V.zero).length + (List.replicate z1 V.zero).length; rw [List.length_replicate, List.length_replicate]; have := HZ1.out; have := HZ.out; have := HF.out; omega))) (h2 := ?_) (hs := nilS)
                  simp only [Act.put, pa]; try dsimp only [List.set]
                  refine quietS 11 ?_
                  simp only [Act.put, pa]; try dsimp only [List.set]
                  refine quietS 12 ?_
                  simp only [Act.put, pa]; try dsimp only [List.set]
                  refine quietS 13 ?_
                  simp only [Act.put, pa]; try dsimp only [List.set]
                  refine readyS [16] ?_
                  refine detS undef [boxZ qa1698, boxE qe1682, valsR (.slice (some ⟨q_24_99, 0, none⟩) z1 z1) (List.replicate z1 V.zero), heapR h (HX [rowO 1 (by decide) (List.replicate k V.zero), rowO 1 (by decide) (List.replicate M V.zero), rowO 1 (by decide) [], rowO 1 (by decide) [], rowO 1 (by decide) (List.replicate z V.zero), rowO 1 (by decide) ZZ, rowO 1 (by decide) (List.replicate z1 V.zero)])] (h1 := fun Wx hSw => by (have hz := hSw.box (b := qa1698) (o := objZ) 0 rfl; refine useZ3 hz fun z0 z1 z2 y0 y1 y2 => ?_; go_simp; exact ⟨rfl, hSw.set3 0 rfl (.int .i64 0) (.int .i64 0) (.string ⟨#[]⟩)⟩)) (h2 := ?_) (hs := nilS)
                  simp only [Act.put, pa]; try dsimp only [List.set]
                  refine readyS [17] ?_
                  refine detS undef [boxZ qa1698, boxN qe1682 memoryError, valsR (.slice (some ⟨q_24_99, 0, none⟩) z1 z1) (List.replicate z1 V.zero), heapR h (HX [rowO 1 (by decide) (List.replicate k V.zero), rowO 1 (by decide) (List.replicate M V.zero), rowO 1 (by decide) [], rowO 1 (by decide) [], rowO 1 (by decide) (List.replicate z V.zero), rowO 1 (by decide) ZZ, rowO 1 (by decide) (List.replicate z1 V.zero)])] (h1 := fun Wx hSw => by (have hz := hSw.box (b := qe1682) (o := objE) 1 rfl; refine useZ5 hz fun z0 z1 z2 z3 z4 y0 y1 y2 y3 y4 => ?_; go_simp; exact ⟨rfl, hSw.set5 1 rfl (.string memoryError) (.int .i64 0) (.int .i64 0) (.string ⟨#[]⟩) (.bool false)⟩)) (h2 := ?_) (hs := nilS)
                  simp only [Act.put, pa]; try dsimp only [List.set]
                  refine doneS (h := fun w24 S => ?_)
                  go_wp2_with fail
                  go_meet
                  exact ⟨_, _, _, rfl, rfl, S⟩
                exact nilS
              exact nilS
          case rest =>
            obtain ⟨qa16, qe16, qr16, rfl, rfl, S⟩ := hcut
            replace S : Sep w (boxZ qa16 :: boxN qe16 memoryError :: valsR (.slice (some ⟨qr16, 0, none⟩) z1 z1) (List.replicate z1 V.zero) :: heapR h (HX [rowO 1 (by decide) (List.replicate k V.zero), rowO 1 (by decide) (List.replicate M V.zero), rowO 1 (by decide) [], rowO 1 (by decide) [], rowO 1 (by decide) (List.replicate z V.zero), rowO 1 (by decide) ZZ, rowO 1 (by decide) (List.replicate z1 V.zero)]) :: boxW qa15 4 6 ⟨#[]⟩ :: boxE qe15 :: valsR (.slice (some ⟨qr15, 0, none⟩) z z) (List.replicate z V.zero) :: boxW qa114 4 4 ⟨#[]⟩ :: boxE qe115 :: boxZ qq0_10 :: boxN qq1_10 memoryError :: boxW qq0_8 4 2 ⟨#[]⟩ :: boxE qq1_8 :: boxW qv3 4 1 ⟨#[]⟩ :: valsR (.slice (some ⟨q_6_1, 0, none⟩) k k) (List.replicate k V.zero) :: []) wc := by rw [Hb16_22.out] at S; exact S
            clear Hb16_22 Kb16_22 Cb16_22_0
            clear q4 q5 q6
            refine named (boxZ qa16 :: boxN qe16 memoryError :: valsR (.slice (some ⟨qr16, 0, none⟩) z1 z1) (List.replicate z1 V.zero) :: heapR h (HX [rowO 1 (by decide) (List.replicate k V.zero), rowO 1 (by decide) (List.replicate M V.zero), rowO 1 (by decide) [], rowO 1 (by decide) [], rowO 1 (by decide) (List.replicate z V.zero), rowO 1 (by decide) ZZ, rowO 1 (by decide) (List.replicate z1 V.zero)]) :: boxW qa15 4 6 ⟨#[]⟩ :: boxE qe15 :: valsR (.slice (some ⟨qr15, 0, none⟩) z z) (List.replicate z V.zero) :: boxW qa114 4 4 ⟨#[]⟩ :: boxE qe115 :: boxZ qq0_10 :: boxN qq1_10 memoryError :: boxW qq0_8 4 2 ⟨#[]⟩ :: boxE qq1_8 :: boxW qv3 4 1 ⟨#[]⟩ :: valsR (.slice (some ⟨q_6_1, 0, none⟩) k k) (List.replicate k V.zero) :: [] : List Res) fun b17_24 hb17_24 => ?_
            have Hb17_24 := Lib.hid hb17_24
            have Kb17_24 : Hid (∀ W (Q : List Res), Sep w (Q ++ b17_24) W → True) := Lib.hid fun W Q T => by
              rw [hb17_24] at T
              trivial
            have Cb17_24_0 : Hid (∀ W (Q : List Res), Sep w (Q ++ b17_24) W → W.cell? ⟨qe15, 0, none⟩ = some (.string ⟨#[]⟩) ∧ W.cell? ⟨qe15, 1, none⟩ = some (.int .i64 0) ∧ W.cell? ⟨qe15, 2, none⟩ = some (.int .i64 0) ∧ W.cell? ⟨qe15, 3, none⟩ = some (.string ⟨#[]⟩) ∧ W.cell? ⟨qe15, 4, none⟩ = some (.bool false)) := Lib.hid fun W Q T => by
              rw [hb17_24] at T
              have i0 := T.box (b := qe15) (o := objE) (Q.length + 5) (by rw [List.getElem?_append_right (by omega), Nat.add_sub_cancel_left]; rfl)
              exact ⟨cellAt i0 0 rfl, cellAt i0 1 rfl, cellAt i0 2 rfl, cellAt i0 3 rfl, cellAt i0 4 rfl⟩
            have Cb17_24_1 : Hid (∀ W (Q : List Res), Sep w (Q ++ b17_24) W → W.cell? ⟨qe16, 0, none⟩ = some (.string memoryError) ∧ W.cell? ⟨qe16, 1, none⟩ = some (.int .i64 0) ∧ W.cell? ⟨qe16, 2, none⟩ = some (.int .i64 0) ∧ W.cell? ⟨qe16, 3, none⟩ = some (.string ⟨#[]⟩) ∧ W.cell? ⟨qe16, 4, none⟩ = some (.bool false)) := Lib.hid fun W Q T => by
              rw [hb17_24] at T
              have i0 := T.box (b := qe16) (o := objN memoryError) (Q.length + 1) (by rw [List.getElem?_append_right (by omega), Nat.add_sub_cancel_left]; rfl)
              exact ⟨cellAt i0 0 rfl, cellAt i0 1 rfl, cellAt i0 2 rfl, cellAt i0 3 rfl, cellAt i0 4 rfl⟩
            have K17_1 : Hid (∀ W (Q : List Res), Sep w (Q ++ b17_24) W → Calls Tryz.prog 19 #[excZ] W fun e W' => e = .returned (.bool true) ∧ Sep w (Q ++ b17_24) W') := Lib.hid fun W Q T => by
              exact (none_z W).mono fun e W' ⟨e1, e2⟩ => ⟨e1, T.later e2⟩
            have K17_5 : Hid (∀ W (Q : List Res), Sep w (Q ++ b17_24) W → Calls Tryz.prog 21 #[excN memoryError, .string memoryError] W fun e W' => e = .returned (.bool true) ∧ Sep w (Q ++ b17_24) W') := Lib.hid fun W Q T => by
              exact (raised_memory W).mono fun e W' ⟨e1, e2⟩ => ⟨e1, T.later e2⟩
            replace S := Lib.hid S
            clear hb17_24
            go_upto_region 17 with fail
            have S1 : Sep w ([] ++ b17_24) (wc) := by rw [Hb17_24.out]; exact S.out
            clear S
            refine regionL (E := []) (base := b17_24) S1 ?_
            clear S1
            refine quietL (hy := fun E Wx hSw => by ((refine and5 (Cb17_24_0.out _ _ hSw) fun u0 u1 u2 u3 u4 => ?_); go_simp; exact ⟨rfl, hSw⟩)) (h := ?_)
            simp only [Act.put, pa]; try dsimp only [List.set]
            refine quietL (hy := fun E Wx hSw => by (go_simp; exact symCall (K17_1.out _ _ hSw))) (h := ?_)
            simp only [Act.put, pa]; try dsimp only [List.set]
            iterate 2 (refine quietL ?_; simp only [Act.put, pa]; try dsimp only [List.set])
            refine quietL (hy := fun E Wx hSw => by ((refine and5 (Cb17_24_1.out _ _ hSw) fun u0 u1 u2 u3 u4 => ?_); go_simp; exact ⟨rfl, hSw⟩)) (h := ?_)
            simp only [Act.put, pa]; try dsimp only [List.set]
            refine quietL (hy := fun E Wx hSw => by (go_simp; exact symCall (K17_5.out _ _ hSw))) (h := ?_)
            simp only [Act.put, pa]; try dsimp only [List.set]
            iterate 2 (refine quietL ?_; simp only [Act.put, pa]; try dsimp only [List.set])
            refine doneL (h := fun w26 S => ?_)
            replace S : Sep w (boxZ qa16 :: boxN qe16 memoryError :: valsR (.slice (some ⟨qr16, 0, none⟩) z1 z1) (List.replicate z1 V.zero) :: heapR h (HX [rowO 1 (by decide) (List.replicate k V.zero), rowO 1 (by decide) (List.replicate M V.zero), rowO 1 (by decide) [], rowO 1 (by decide) [], rowO 1 (by decide) (List.replicate z V.zero), rowO 1 (by decide) ZZ, rowO 1 (by decide) (List.replicate z1 V.zero)]) :: boxW qa15 4 6 ⟨#[]⟩ :: boxE qe15 :: valsR (.slice (some ⟨qr15, 0, none⟩) z z) (List.replicate z V.zero) :: boxW qa114 4 4 ⟨#[]⟩ :: boxE qe115 :: boxZ qq0_10 :: boxN qq1_10 memoryError :: boxW qq0_8 4 2 ⟨#[]⟩ :: boxE qq1_8 :: boxW qv3 4 1 ⟨#[]⟩ :: valsR (.slice (some ⟨q_6_1, 0, none⟩) k k) (List.replicate k V.zero) :: []) w26 := by rw [Hb17_24.out] at S; exact S
            clear Hb17_24 Kb17_24 K17_1 K17_5 Cb17_24_0 Cb17_24_1
            clear q1 q2
            replace S : Sep w ([boxZ qa16, boxN qe16 memoryError, valsR (.slice (some ⟨qr16, 0, none⟩) z1 z1) (List.replicate z1 V.zero), boxW qa15 4 6 ⟨#[]⟩, boxE qe15, valsR (.slice (some ⟨qr15, 0, none⟩) z z) (List.replicate z V.zero), boxW qa114 4 4 ⟨#[]⟩, boxE qe115, boxZ qq0_10, boxN qq1_10 memoryError, boxW qq0_8 4 2 ⟨#[]⟩, boxE qq1_8, boxW qv3 4 1 ⟨#[]⟩, valsR (.slice (some ⟨q_6_1, 0, none⟩) k k) (List.replicate k V.zero), heapR h (HX [rowO 1 (by decide) (List.replicate k V.zero), rowO 1 (by decide) (List.replicate M V.zero), rowO 1 (by decide) [], rowO 1 (by decide) [], rowO 1 (by decide) (List.replicate z V.zero), rowO 1 (by decide) ZZ, rowO 1 (by decide) (List.replicate z1 V.zero)])] ++ []) (w26) := by
              refine (show Sep w ([boxZ qa16, boxN qe16 memoryError, valsR (.slice (some ⟨qr16, 0, none⟩) z1 z1) (List.replicate z1 V.zero), heapR h (HX [rowO 1 (by decide) (List.replicate k V.zero), rowO 1 (by decide) (List.replicate M V.zero), rowO 1 (by decide) [], rowO 1 (by decide) [], rowO 1 (by decide) (List.replicate z V.zero), rowO 1 (by decide) ZZ, rowO 1 (by decide) (List.replicate z1 V.zero)]), boxW qa15 4 6 ⟨#[]⟩, boxE qe15, valsR (.slice (some ⟨qr15, 0, none⟩) z z) (List.replicate z V.zero), boxW qa114 4 4 ⟨#[]⟩, boxE qe115, boxZ qq0_10, boxN qq1_10 memoryError, boxW qq0_8 4 2 ⟨#[]⟩, boxE qq1_8, boxW qv3 4 1 ⟨#[]⟩, valsR (.slice (some ⟨q_6_1, 0, none⟩) k k) (List.replicate k V.zero)] ++ []) _ from S).perm ?_
              exact List.Perm.append_right [] (perm_of (l := [boxZ qa16, boxN qe16 memoryError, valsR (.slice (some ⟨qr16, 0, none⟩) z1 z1) (List.replicate z1 V.zero), heapR h (HX [rowO 1 (by decide) (List.replicate k V.zero), rowO 1 (by decide) (List.replicate M V.zero), rowO 1 (by decide) [], rowO 1 (by decide) [], rowO 1 (by decide) (List.replicate z V.zero), rowO 1 (by decide) ZZ, rowO 1 (by decide) (List.replicate z1 V.zero)]), boxW qa15 4 6 ⟨#[]⟩, boxE qe15, valsR (.slice (some ⟨qr15, 0, none⟩) z z) (List.replicate z V.zero), boxW qa114 4 4 ⟨#[]⟩, boxE qe115, boxZ qq0_10, boxN qq1_10 memoryError, boxW qq0_8 4 2 ⟨#[]⟩, boxE qq1_8, boxW qv3 4 1 ⟨#[]⟩, valsR (.slice (some ⟨q_6_1, 0, none⟩) k k) (List.replicate k V.zero)]) [0, 1, 2, 4, 5, 6, 7, 8, 9, 10, 11, 12, 13, 14, 3] (by show (List.range' 0 15).Perm [0, 1, 2, 4, 5, 6, 7, 8, 9, 10, 11, 12, 13, 14, 3]; decide) (by rfl))
            iterate 14 replace S := S.tail
            replace S : Sep w (heapR h (HX [rowO 1 (by decide) (List.replicate k V.zero), rowO 1 (by decide) (List.replicate M V.zero), rowO 1 (by decide) [], rowO 1 (by decide) [], rowO 1 (by decide) (List.replicate z V.zero), rowO 1 (by decide) ZZ, rowO 1 (by decide) (List.replicate z1 V.zero)]) :: []) (w26) := S
            as_aux_lemma =>
              obtain ⟨L2, hL2⟩ : ∃ l, l = L + 2 := ⟨_, rfl⟩
              have HL2 : Hid (L2 = L + 2) := Lib.hid hL2
              obtain ⟨q1, q2, q3⟩ := H19.out
              rw [← hL2] at q3
              clear hL2
              refine named (heapR h (HX [rowO 1 (by decide) (List.replicate k V.zero), rowO 1 (by decide) (List.replicate M V.zero), rowO 1 (by decide) [], rowO 1 (by decide) [], rowO 1 (by decide) (List.replicate z V.zero), rowO 1 (by decide) ZZ, rowO 1 (by decide) (List.replicate z1 V.zero)]) :: [] : List Res) fun b19_26 hb19_26 => ?_
              have Hb19_26 := Lib.hid hb19_26
              have Kb19_26 : Hid (∀ W (Q : List Res), Sep w (Q ++ b19_26) W → True) := Lib.hid fun W Q T => by
                rw [hb19_26] at T
                trivial
              replace S := Lib.hid S
              clear hb19_26
              go_upto_region 19 with fail
              have S1 : Sep w ([] ++ b19_26) (w26) := by rw [Hb19_26.out]; exact S.out
              clear S
              refine regionL (E := []) (base := b19_26) S1 ?_
              clear S1
              iterate 5 (refine quietL ?_; simp only [Act.put, pa]; try dsimp only [List.set])
              refine doneL (h := fun w28 S => ?_)
              replace S : Sep w (heapR h (HX [rowO 1 (by decide) (List.replicate k V.zero), rowO 1 (by decide) (List.replicate M V.zero), rowO 1 (by decide) [], rowO 1 (by decide) [], rowO 1 (by decide) (List.replicate z V.zero), rowO 1 (by decide) ZZ, rowO 1 (by decide) (List.replicate z1 V.zero)]) :: []) w28 := by rw [Hb19_26.out] at S; exact S
              clear Hb19_26 Kb19_26
              clear q1 q2 q3
              have q1 : IntKind.i64.wrap ((L2 : Int) - 2) = (L : Int) := by rw [HL2.out]; exact (IntWalk.i64_in _ (by have := HL.out; omega)).trans (by omega)
              refine named (heapR h (HX [rowO 1 (by decide) (List.replicate k V.zero), rowO 1 (by decide) (List.replicate M V.zero), rowO 1 (by decide) [], rowO 1 (by decide) [], rowO 1 (by decide) (List.replicate z V.zero), rowO 1 (by decide) ZZ, rowO 1 (by decide) (List.replicate z1 V.zero)]) :: [] : List Res) fun b20_28 hb20_28 => ?_
              have Hb20_28 := Lib.hid hb20_28
              have Kb20_28 : Hid (∀ W (Q : List Res), Sep w (Q ++ b20_28) W → True) := Lib.hid fun W Q T => by
                rw [hb20_28] at T
                trivial
              replace S := Lib.hid S
              clear hb20_28
              go_upto_region 20 with fail
              have S1 : Sep w ([] ++ b20_28) (w28) := by rw [Hb20_28.out]; exact S.out
              clear S
              refine regionL (E := [emptyR]) (base := b20_28) (Sep.putE S1) ?_
              clear S1
              iterate 2 (refine quietL ?_; simp only [Act.put, pa]; try dsimp only [List.set])
              refine stepL (fun v E1 => ∃ (q_30_1 : Nat), v = .slice (some ⟨q_30_1, 0, none⟩) L L ∧ E1 = [bytesR (.slice (some ⟨q_30_1, 0, none⟩) L L) (List.replicate L 0)]) (h1 := fun Wx hSw => by (obtain ⟨g, w2, hr, S2⟩ := Sep.makeB hSw L (by have := HL.out; omega); exact symMake _ _ _ rfl _ _ rfl rfl hr ⟨_, ⟨_, rfl, rfl⟩, S2.into 0 rfl⟩)) (h2 := fun v E1 hvE => ?_)
              obtain ⟨q_30_1, rfl, rfl⟩ := hvE
              simp only [Act.put, pa]; try dsimp only [List.set]
              refine quietL ?_
              simp only [Act.put, pa]; try dsimp only [List.set]
              refine doneL (h := fun w30 S => ?_)
              replace S : Sep w (bytesR (.slice (some ⟨q_30_1, 0, none⟩) L L) (List.replicate L 0) :: heapR h (HX [rowO 1 (by decide) (List.replicate k V.zero), rowO 1 (by decide) (List.replicate M V.zero), rowO 1 (by decide) [], rowO 1 (by decide) [], rowO 1 (by decide) (List.replicate z V.zero), rowO 1 (by decide) ZZ, rowO 1 (by decide) (List.replicate z1 V.zero)]) :: []) w30 := by rw [Hb20_28.out] at S; exact S
              clear Hb20_28 Kb20_28
              clear q1
              replace S := Lib.hid S
              go_wp2
              go_loopw [23] (fun s23 wr => ∃ i : Nat, i ≤ L ∧ s23 = .int .i64 i ∧ Sep w ([bytesR (.slice (some ⟨q_30_1, 0, none⟩) L L) (List.replicate i 97 ++ List.replicate (L - i) 0), heapR h (HX [rowO 1 (by decide) (List.replicate k V.zero), rowO 1 (by decide) (List.replicate M V.zero), rowO 1 (by decide) [], rowO 1 (by decide) [], rowO 1 (by decide) (List.replicate z V.zero), rowO 1 (by decide) ZZ, rowO 1 (by decide) (List.replicate z1 V.zero)])] ++ []) wr) (fun s23 _ => L - (intOf s23).toNat)
              case atStart => exact ⟨0, Nat.zero_le _, rfl, S.out⟩
              case round =>
                obtain ⟨i, hi, rfl, S⟩ := hrel
                have HI := Lib.hid hi
                by_cases hlt : i < L
                ·
                  have HLT := Lib.hid hlt
                  have hlti : (i : Int) < L := by omega
                  clear hi
                  replace S : Sep w (bytesR (.slice (some ⟨q_30_1, 0, none⟩) L L) (List.replicate i 97 ++ List.replicate (L - i) 0) :: heapR h (HX [rowO 1 (by decide) (List.replicate k V.zero), rowO 1 (by decide) (List.replicate M V.zero), rowO 1 (by decide) [], rowO 1 (by decide) [], rowO 1 (by decide) (List.replicate z V.zero), rowO 1 (by decide) ZZ, rowO 1 (by decide) (List.replicate z1 V.zero)]) :: []) wr := S
                  replace S : Sep w (bytesR (.slice (some ⟨q_30_1, 0, none⟩) L L) (List.replicate i 97 ++ List.replicate (L - i) 0) :: heapR h (HX [rowO 1 (by decide) (List.replicate k V.zero), rowO 1 (by decide) (List.replicate M V.zero), rowO 1 (by decide) [], rowO 1 (by decide) [], rowO 1 (by decide) (List.replicate z V.zero), rowO 1 (by decide) ZZ, rowO 1 (by decide) (List.replicate z1 V.zero)]) :: []) (wr) := by
                    refine (show Sep w ([bytesR (.slice (some ⟨q_30_1, 0, none⟩) L L) (List.replicate i 97 ++ List.replicate (L - i) 0), heapR h (HX [rowO 1 (by decide) (List.replicate k V.zero), rowO 1 (by decide) (List.replicate M V.zero), rowO 1 (by decide) [], rowO 1 (by decide) [], rowO 1 (by decide) (List.replicate z V.zero), rowO 1 (by decide) ZZ, rowO 1 (by decide) (List.replicate z1 V.zero)])] ++ []) _ from S).perm ?_
                    exact List.Perm.append_right [] (perm_of (l := [bytesR (.slice (some ⟨q_30_1, 0, none⟩) L L) (List.replicate i 97 ++ List.replicate (L - i) 0), heapR h (HX [rowO 1 (by decide) (List.replicate k V.zero), rowO 1 (by decide) (List.replicate M V.zero), rowO 1 (by decide) [], rowO 1 (by decide) [], rowO 1 (by decide) (List.replicate z V.zero), rowO 1 (by decide) ZZ, rowO 1 (by decide) (List.replicate z1 V.zero)])]) [0, 1] (by show (List.range' 0 2).Perm [0, 1]; decide) (by rfl))
                  refine named (heapR h (HX [rowO 1 (by decide) (List.replicate k V.zero), rowO 1 (by decide) (List.replicate M V.zero), rowO 1 (by decide) [], rowO 1 (by decide) [], rowO 1 (by decide) (List.replicate z V.zero), rowO 1 (by decide) ZZ, rowO 1 (by decide) (List.replicate z1 V.zero)]) :: [] : List Res) fun b24_300 hb24_300 => ?_
                  have Hb24_300 := Lib.hid hb24_300
                  have Kb24_300 : Hid (∀ W (Q : List Res), Sep w (Q ++ b24_300) W → True) := Lib.hid fun W Q T => by
                    rw [hb24_300] at T
                    trivial
                  replace S := Lib.hid S
                  clear hb24_300
                  go_upto_region 24 with fail
                  have S1 : Sep w ([bytesR (.slice (some ⟨q_30_1, 0, none⟩) L L) (List.replicate i 97 ++ List.replicate (L - i) 0)] ++ b24_300) (wr) := by rw [Hb24_300.out]; exact S.out
                  clear S
                  refine regionL (E := [bytesR (.slice (some ⟨q_30_1, 0, none⟩) L L) (List.replicate i 97 ++ List.replicate (L - i) 0)]) (base := b24_300) S1 ?_
                  clear S1
                  iterate 3 (refine quietL ?_; simp only [Act.put, pa]; try dsimp only [List.set])
                  refine detL (undef) [bytesR (.slice (some ⟨q_30_1, 0, none⟩) L L) (List.replicate (i + 1) 97 ++ List.replicate (L - (i + 1)) 0)] (h1 := fun Wx hSw => by (obtain ⟨S2, hc, hf⟩ := bytes_put hSw 0 rfl HLT.out; go_simp; exact ⟨rfl, S2⟩)) (h2 := ?_)
                  simp only [Act.put, pa]; try dsimp only [List.set]
                  refine doneL (h := fun w302 S => ?_)
                  replace S : Sep w (bytesR (.slice (some ⟨q_30_1, 0, none⟩) L L) (List.replicate (i + 1) 97 ++ List.replicate (L - (i + 1)) 0) :: heapR h (HX [rowO 1 (by decide) (List.replicate k V.zero), rowO 1 (by decide) (List.replicate M V.zero), rowO 1 (by decide) [], rowO 1 (by decide) [], rowO 1 (by decide) (List.replicate z V.zero), rowO 1 (by decide) ZZ, rowO 1 (by decide) (List.replicate z1 V.zero)]) :: []) w302 := by rw [Hb24_300.out] at S; exact S
                  clear Hb24_300 Kb24_300
                  replace S := Lib.hid S
                  have hii : IntKind.i64.wrap ((i : Int) + 1) = (i : Int) + 1 := IntWalk.i64_in _ (by have := HL.out; have := HLT.out; omega)
                  go_wp2
                  exact ⟨⟨i + 1, HLT.out, by go_num, S.out⟩, by have := HLT.out; simp [intOf]; omega⟩
                ·
                  obtain rfl : i = L := by omega
                  have hlti : ¬ ((i : Int) < i) := by omega
                  obtain ⟨TX, hTX⟩ : ∃ t : ByteArray, t = ⟨(List.replicate i (97 : UInt8)).toArray⟩ := ⟨_, rfl⟩
                  have hb0 : List.replicate i (97 : UInt8) ++ List.replicate (i - i) 0 = List.replicate i 97 := by simp
                  rw [hb0] at S
                  have HTX := Lib.hid hTX
                  have HTS : Hid (TX.size = i) := Lib.hid (by rw [hTX]; simp [ByteArray.size])
                  have HTM : Hid (TX.size ≤ maxLen) := Lib.hid (by rw [HTS.out]; unfold maxLen; have := HL.out; omega)
                  have HNE : Hid (List.replicate i (97 : UInt8) ≠ []) := Lib.hid (by have := HL.out; intro e; have e2 := congrArg List.length e; simp at e2; omega)
                  have HTL : Hid (((HX [rowO 1 (by decide) (List.replicate k V.zero), rowO 1 (by decide) (List.replicate M V.zero), rowO 1 (by decide) [], rowO 1 (by decide) [], rowO 1 (by decide) (List.replicate z V.zero), rowO 1 (by decide) ZZ, rowO 1 (by decide) (List.replicate z1 V.zero)]).plainL (vS TX HTM.out)).length = L2) := Lib.hid (by have hm := HTM.out; rw [HL2.out]; subst hTX; exact told _ i hm)
                  obtain ⟨RT, hRT⟩ : ∃ t : ByteArray, t = ⟨((HX [rowO 1 (by decide) (List.replicate k V.zero), rowO 1 (by decide) (List.replicate M V.zero), rowO 1 (by decide) [], rowO 1 (by decide) [], rowO 1 (by decide) (List.replicate z V.zero), rowO 1 (by decide) ZZ, rowO 1 (by decide) (List.replicate z1 V.zero)]).plainL (vS TX HTM.out)).toArray⟩ := ⟨_, rfl⟩
                  have HRT := Lib.hid hRT
                  have hrs : RT.size = L2 := by rw [hRT]; simpa [ByteArray.size] using HTL.out
                  have hrsi : (RT.size : Int) = L2 := by rw [hrs]
                  have HRS := Lib.hid (And.intro hrs hrsi)
                  clear hTX hb0 hRT hi HI hrs hrsi
                  replace S : Sep w (bytesR (.slice (some ⟨q_30_1, 0, none⟩) i i) (List.replicate i 97) :: heapR h (HX [rowO 1 (by decide) (List.replicate k V.zero), rowO 1 (by decide) (List.replicate M V.zero), rowO 1 (by decide) [], rowO 1 (by decide) [], rowO 1 (by decide) (List.replicate z V.zero), rowO 1 (by decide) ZZ, rowO 1 (by decide) (List.replicate z1 V.zero)]) :: []) wr := S
                  by_cases hlen : L2 ≤ 65536
                  ·
                    have HLEN := Lib.hid hlen
                    have hli : (L2 : Int) ≤ 65536 := by omega
                    clear hlen
                    replace S : Sep w (bytesR (.slice (some ⟨q_30_1, 0, none⟩) i i) (List.replicate i 97) :: heapR h (HX [rowO 1 (by decide) (List.replicate k V.zero), rowO 1 (by decide) (List.replicate M V.zero), rowO 1 (by decide) [], rowO 1 (by decide) [], rowO 1 (by decide) (List.replicate z V.zero), rowO 1 (by decide) ZZ, rowO 1 (by decide) (List.replicate z1 V.zero)]) :: []) (wr) := by
                      refine (show Sep w ([bytesR (.slice (some ⟨q_30_1, 0, none⟩) i i) (List.replicate i 97), heapR h (HX [rowO 1 (by decide) (List.replicate k V.zero), rowO 1 (by decide) (List.replicate M V.zero), rowO 1 (by decide) [], rowO 1 (by decide) [], rowO 1 (by decide) (List.replicate z V.zero), rowO 1 (by decide) ZZ, rowO 1 (by decide) (List.replicate z1 V.zero)])] ++ []) _ from S).perm ?_
                      exact List.Perm.append_right [] (perm_of (l := [bytesR (.slice (some ⟨q_30_1, 0, none⟩) i i) (List.replicate i 97), heapR h (HX [rowO 1 (by decide) (List.replicate k V.zero), rowO 1 (by decide) (List.replicate M V.zero), rowO 1 (by decide) [], rowO 1 (by decide) [], rowO 1 (by decide) (List.replicate z V.zero), rowO 1 (by decide) ZZ, rowO 1 (by decide) (List.replicate z1 V.zero)])]) [0, 1] (by show (List.range' 0 2).Perm [0, 1]; decide) (by rfl))
                    refine named (heapR h (HX [rowO 1 (by decide) (List.replicate k V.zero), rowO 1 (by decide) (List.replicate M V.zero), rowO 1 (by decide) [], rowO 1 (by decide) [], rowO 1 (by decide) (List.replicate z V.zero), rowO 1 (by decide) ZZ, rowO 1 (by decide) (List.replicate z1 V.zero)]) :: [] : List Res) fun b25_400 hb25_400 => ?_
                    have Hb25_400 := Lib.hid hb25_400
                    have Kb25_400 : Hid (∀ W (Q : List Res), Sep w (Q ++ b25_400) W → True) := Lib.hid fun W Q T => by
                      rw [hb25_400] at T
                      trivial
                    have K25_3 : Hid (∀ W (Q : List Res), Sep w (Q ++ b25_400) W → Calls Tryz.prog 17 #[.string TX] W fun e W' => e = .returned (.agg #[.int .i64 3, .int .i64 0, .string TX]) ∧ Sep w (Q ++ b25_400) W') := Lib.hid fun W Q T => by
                      exact (lstr_ok W TX).mono fun e W' ⟨e1, e2⟩ => ⟨e1, T.later e2⟩
                    have K25_4 : Hid (∀ W (Q : List Res), Sep w (Q ++ b25_400) W → Calls Tryz.prog 25 #[.pointer (some ⟨h, 0, none⟩), .agg #[.int .i64 3, .int .i64 0, .string TX]] W fun e W' => e = .returned (.tuple #[.string RT, excZ]) ∧ Sep w (Q ++ b25_400) W') := Lib.hid fun W Q T => by
                      rw [Hb25_400.out] at T ⊢
                      exact (by have hh := repr_one (HG7.out.good (by simp)) (by decide) T (Q.length + 0) (by rw [List.getElem?_append_right (by omega), Nat.add_sub_cancel_left]; rfl) (vS TX HTM.out) (.inr (.inr (.inr rfl))) (by show TX.size ≤ 100000; rw [HTS.out]; have := HL.out; omega) _ rfl; rw [HeapM.repr_fits _ _ (by show ¬ (3 : Int) = 4; decide) (by rw [HTL.out]; exact HLEN.out), ← HRT.out] at hh; exact hh)
                    replace S := Lib.hid S
                    clear hb25_400
                    go_upto_region 25 with fail
                    have S1 : Sep w ([bytesR (.slice (some ⟨q_30_1, 0, none⟩) i i) (List.replicate i 97)] ++ b25_400) (wr) := by rw [Hb25_400.out]; exact S.out
                    clear S
                    refine regionL (E := [emptyR, bytesR (.slice (some ⟨q_30_1, 0, none⟩) i i) (List.replicate i 97)]) (base := b25_400) (Sep.putE S1) ?_
                    clear S1
                    iterate 2 (refine quietL ?_; simp only [Act.put, pa]; try dsimp only [List.set])
                    refine detL (.string TX) [emptyR, bytesR (.slice (some ⟨q_30_1, 0, none⟩) i i) (List.replicate i 97)] (h1 := fun Wx hSw => by (have hb := bytes_back hSw 1 rfl HNE.out; rw [← HTX.out] at hb; go_simp; exact ⟨rfl, hSw⟩)) (h2 := ?_)
                    simp only [Act.put, pa]; try dsimp only [List.set]
                    refine quietL (hy := fun E Wx hSw => by (go_simp; exact symCall (K25_3.out _ _ hSw))) (h := ?_)
                    simp only [Act.put, pa]; try dsimp only [List.set]
                    refine quietL (hy := fun E Wx hSw => by (go_simp; exact symCall (K25_4.out _ _ hSw))) (h := ?_)
                    simp only [Act.put, pa]; try dsimp only [List.set]
                    iterate 3 (refine quietL ?_; simp only [Act.put, pa]; try dsimp only [List.set])
                    refine allocL 0 rfl (fun q => .pointer (some ⟨q, 0, none⟩)) (.cells #[.string ⟨#[]⟩, .int .i64 0, .int .i64 0, .string ⟨#[]⟩, .bool false] 38) (h1 := fun Wx => by go_simp) (h2 := fun qe252 => ?_)
                    simp only [Act.put, pa]; try dsimp only [List.set]
                    try simp only [List.set_cons_zero, List.set_cons_succ]
                    refine quietL ?_
                    simp only [Act.put, pa]; try dsimp only [List.set]
                    refine detL undef [boxE qe252, bytesR (.slice (some ⟨q_30_1, 0, none⟩) i i) (List.replicate i 97)] (h1 := fun Wx hSw => by (have hz := hSw.box (b := qe252) (o := objE) 0 rfl; refine useZ5 hz fun z0 z1 z2 z3 z4 y0 y1 y2 y3 y4 => ?_; go_simp; exact ⟨rfl, hSw.set5 0 rfl (.string ⟨#[]⟩) (.int .i64 0) (.int .i64 0) (.string ⟨#[]⟩) (.bool false)⟩)) (h2 := ?_)
                    simp only [Act.put, pa]; try dsimp only [List.set]
                    refine doneL (h := fun w402 S => ?_)
                    replace S : Sep w (boxE qe252 :: bytesR (.slice (some ⟨q_30_1, 0, none⟩) i i) (List.replicate i 97) :: heapR h (HX [rowO 1 (by decide) (List.replicate k V.zero), rowO 1 (by decide) (List.replicate M V.zero), rowO 1 (by decide) [], rowO 1 (by decide) [], rowO 1 (by decide) (List.replicate z V.zero), rowO 1 (by decide) ZZ, rowO 1 (by decide) (List.replicate z1 V.zero)]) :: []) w402 := by rw [Hb25_400.out] at S; exact S
                    clear Hb25_400 Kb25_400 K25_3 K25_4
                    obtain ⟨hrs, hrsi⟩ := HRS.out
                    refine named (boxE qe252 :: bytesR (.slice (some ⟨q_30_1, 0, none⟩) i i) (List.replicate i 97) :: heapR h (HX [rowO 1 (by decide) (List.replicate k V.zero), rowO 1 (by decide) (List.replicate M V.zero), rowO 1 (by decide) [], rowO 1 (by decide) [], rowO 1 (by decide) (List.replicate z V.zero), rowO 1 (by decide) ZZ, rowO 1 (by decide) (List.replicate z1 V.zero)]) :: [] : List Res) fun b26_402 hb26_402 => ?_
                    have Hb26_402 := Lib.hid hb26_402
                    have Kb26_402 : Hid (∀ W (Q : List Res), Sep w (Q ++ b26_402) W → True) := Lib.hid fun W Q T => by
                      rw [hb26_402] at T
                      trivial
                    have Cb26_402_0 : Hid (∀ W (Q : List Res), Sep w (Q ++ b26_402) W → W.cell? ⟨qe252, 0, none⟩ = some (.string ⟨#[]⟩) ∧ W.cell? ⟨qe252, 1, none⟩ = some (.int .i64 0) ∧ W.cell? ⟨qe252, 2, none⟩ = some (.int .i64 0) ∧ W.cell? ⟨qe252, 3, none⟩ = some (.string ⟨#[]⟩) ∧ W.cell? ⟨qe252, 4, none⟩ = some (.bool false)) := Lib.hid fun W Q T => by
                      rw [hb26_402] at T
                      have i0 := T.box (b := qe252) (o := objE) (Q.length + 0) (by rw [List.getElem?_append_right (by omega), Nat.add_sub_cancel_left]; rfl)
                      exact ⟨cellAt i0 0 rfl, cellAt i0 1 rfl, cellAt i0 2 rfl, cellAt i0 3 rfl, cellAt i0 4 rfl⟩
                    have K26_1 : Hid (∀ W (Q : List Res), Sep w (Q ++ b26_402) W → Calls Tryz.prog 19 #[excZ] W fun e W' => e = .returned (.bool true) ∧ Sep w (Q ++ b26_402) W') := Lib.hid fun W Q T => by
                      exact (none_z W).mono fun e W' ⟨e1, e2⟩ => ⟨e1, T.later e2⟩
                    have K26_7 : Hid (∀ W (Q : List Res), Sep w (Q ++ b26_402) W → Calls Tryz.prog 19 #[excZ] W fun e W' => e = .returned (.bool true) ∧ Sep w (Q ++ b26_402) W') := Lib.hid fun W Q T => by
                      exact (none_z W).mono fun e W' ⟨e1, e2⟩ => ⟨e1, T.later e2⟩
                    replace S := Lib.hid S
                    clear hb26_402
                    go_upto_region 26 with fail
                    have S1 : Sep w ([] ++ b26_402) (w402) := by rw [Hb26_402.out]; exact S.out
                    clear S
                    refine regionL (E := []) (base := b26_402) S1 ?_
                    clear S1
                    refine quietL (hy := fun E Wx hSw => by ((refine and5 (Cb26_402_0.out _ _ hSw) fun u0 u1 u2 u3 u4 => ?_); go_simp; exact ⟨rfl, hSw⟩)) (h := ?_)
                    simp only [Act.put, pa]; try dsimp only [List.set]
                    refine quietL (hy := fun E Wx hSw => by (go_simp; exact symCall (K26_1.out _ _ hSw))) (h := ?_)
                    simp only [Act.put, pa]; try dsimp only [List.set]
                    iterate 4 (refine quietL ?_; simp only [Act.put, pa]; try dsimp only [List.set])
                    refine quietL (hy := fun E Wx hSw => by ((refine and5 (Cb26_402_0.out _ _ hSw) fun u0 u1 u2 u3 u4 => ?_); go_simp; exact ⟨rfl, hSw⟩)) (h := ?_)
                    simp only [Act.put, pa]; try dsimp only [List.set]
                    refine quietL (hy := fun E Wx hSw => by (go_simp; exact symCall (K26_7.out _ _ hSw))) (h := ?_)
                    simp only [Act.put, pa]; try dsimp only [List.set]
                    iterate 7 (refine quietL ?_; simp only [Act.put, pa]; try dsimp only [List.set])
                    iterate 6 (refine skipL ?_; simp only [Act.put, pa]; try dsimp only [List.set])
                    iterate 3 (refine quietL ?_; simp only [Act.put, pa]; try dsimp only [List.set])
                    refine doneL (h := fun w404 S => ?_)
                    replace S : Sep w (boxE qe252 :: bytesR (.slice (some ⟨q_30_1, 0, none⟩) i i) (List.replicate i 97) :: heapR h (HX [rowO 1 (by decide) (List.replicate k V.zero), rowO 1 (by decide) (List.replicate M V.zero), rowO 1 (by decide) [], rowO 1 (by decide) [], rowO 1 (by decide) (List.replicate z V.zero), rowO 1 (by decide) ZZ, rowO 1 (by decide) (List.replicate z1 V.zero)]) :: []) w404 := by rw [Hb26_402.out] at S; exact S
                    clear Hb26_402 Kb26_402 K26_1 K26_7 Cb26_402_0
                    replace S := Lib.hid S.below
                    go_wp2
                    go_ret
                    exact ⟨rfl, S.out⟩
                  ·
                    have HLEN := Lib.hid hlen
                    have hli : ¬ (L2 : Int) ≤ 65536 := by omega
                    clear hlen
                    replace S : Sep w (bytesR (.slice (some ⟨q_30_1, 0, none⟩) i i) (List.replicate i 97) :: heapR h (HX [rowO 1 (by decide) (List.replicate k V.zero), rowO 1 (by decide) (List.replicate M V.zero), rowO 1 (by decide) [], rowO 1 (by decide) [], rowO 1 (by decide) (List.replicate z V.zero), rowO 1 (by decide) ZZ, rowO 1 (by decide) (List.replicate z1 V.zero)]) :: []) (wr) := by
                      refine (show Sep w ([bytesR (.slice (some ⟨q_30_1, 0, none⟩) i i) (List.replicate i 97), heapR h (HX [rowO 1 (by decide) (List.replicate k V.zero), rowO 1 (by decide) (List.replicate M V.zero), rowO 1 (by decide) [], rowO 1 (by decide) [], rowO 1 (by decide) (List.replicate z V.zero), rowO 1 (by decide) ZZ, rowO 1 (by decide) (List.replicate z1 V.zero)])] ++ []) _ from S).perm ?_
                      exact List.Perm.append_right [] (perm_of (l := [bytesR (.slice (some ⟨q_30_1, 0, none⟩) i i) (List.replicate i 97), heapR h (HX [rowO 1 (by decide) (List.replicate k V.zero), rowO 1 (by decide) (List.replicate M V.zero), rowO 1 (by decide) [], rowO 1 (by decide) [], rowO 1 (by decide) (List.replicate z V.zero), rowO 1 (by decide) ZZ, rowO 1 (by decide) (List.replicate z1 V.zero)])]) [0, 1] (by show (List.range' 0 2).Perm [0, 1]; decide) (by rfl))
                    refine named (heapR h (HX [rowO 1 (by decide) (List.replicate k V.zero), rowO 1 (by decide) (List.replicate M V.zero), rowO 1 (by decide) [], rowO 1 (by decide) [], rowO 1 (by decide) (List.replicate z V.zero), rowO 1 (by decide) ZZ, rowO 1 (by decide) (List.replicate z1 V.zero)]) :: [] : List Res) fun b25_400 hb25_400 => ?_
                    have Hb25_400 := Lib.hid hb25_400
                    have Kb25_400 : Hid (∀ W (Q : List Res), Sep w (Q ++ b25_400) W → True) := Lib.hid fun W Q T => by
                      rw [hb25_400] at T
                      trivial
                    have K25_3 : Hid (∀ W (Q : List Res), Sep w (Q ++ b25_400) W → Calls Tryz.prog 17 #[.string TX] W fun e W' => e = .returned (.agg #[.int .i64 3, .int .i64 0, .string TX]) ∧ Sep w (Q ++ b25_400) W') := Lib.hid fun W Q T => by
                      exact (lstr_ok W TX).mono fun e W' ⟨e1, e2⟩ => ⟨e1, T.later e2⟩
                    have K25_4 : Hid (∀ W (Q : List Res), Sep w (Q ++ b25_400) W → Calls Tryz.prog 25 #[.pointer (some ⟨h, 0, none⟩), .agg #[.int .i64 3, .int .i64 0, .string TX]] W fun e W' => e = .returned (.tuple #[.string ⟨#[]⟩, excN memoryError]) ∧ Sep w (Q ++ b25_400) W') := Lib.hid fun W Q T => by
                      rw [Hb25_400.out] at T ⊢
                      exact (by have hh := repr_one (HG7.out.good (by simp)) (by decide) T (Q.length + 0) (by rw [List.getElem?_append_right (by omega), Nat.add_sub_cancel_left]; rfl) (vS TX HTM.out) (.inr (.inr (.inr rfl))) (by show TX.size ≤ 100000; rw [HTS.out]; have := HL.out; omega) _ rfl; rw [HeapM.repr_long _ _ (by show ¬ (3 : Int) = 4; decide) (by rw [HTL.out]; have := HLEN.out; omega)] at hh; exact hh)
                    replace S := Lib.hid S
                    clear hb25_400
                    go_upto_region 25 with fail
                    have S1 : Sep w ([bytesR (.slice (some ⟨q_30_1, 0, none⟩) i i) (List.replicate i 97)] ++ b25_400) (wr) := by rw [Hb25_400.out]; exact S.out
                    clear S
                    refine regionL (E := [emptyR, bytesR (.slice (some ⟨q_30_1, 0, none⟩) i i) (List.replicate i 97)]) (base := b25_400) (Sep.putE S1) ?_
                    clear S1
                    iterate 2 (refine quietL ?_; simp only [Act.put, pa]; try dsimp only [List.set])
                    refine detL (.string TX) [emptyR, bytesR (.slice (some ⟨q_30_1, 0, none⟩) i i) (List.replicate i 97)] (h1 := fun Wx hSw => by (have hb := bytes_back hSw 1 rfl HNE.out; rw [← HTX.out] at hb; go_simp; exact ⟨rfl, hSw⟩)) (h2 := ?_)
                    simp only [Act.put, pa]; try dsimp only [List.set]
                    refine quietL (hy := fun E Wx hSw => by (go_simp; exact symCall (K25_3.out _ _ hSw))) (h := ?_)
                    simp only [Act.put, pa]; try dsimp only [List.set]
                    refine quietL (hy := fun E Wx hSw => by (go_simp; exact symCall (K25_4.out _ _ hSw))) (h := ?_)
                    simp only [Act.put, pa]; try dsimp only [List.set]
                    iterate 3 (refine quietL ?_; simp only [Act.put, pa]; try dsimp only [List.set])
                    refine allocL 0 rfl (fun q => .pointer (some ⟨q, 0, none⟩)) (.cells #[.string ⟨#[]⟩, .int .i64 0, .int .i64 0, .string ⟨#[]⟩, .bool false] 38) (h1 := fun Wx => by go_simp) (h2 := fun qe252 => ?_)
                    simp only [Act.put, pa]; try dsimp only [List.set]
                    try simp only [List.set_cons_zero, List.set_cons_succ]
                    refine quietL ?_
                    simp only [Act.put, pa]; try dsimp only [List.set]
                    refine detL undef [boxN qe252 memoryError, bytesR (.slice (some ⟨q_30_1, 0, none⟩) i i) (List.replicate i 97)] (h1 := fun Wx hSw => by (have hz := hSw.box (b := qe252) (o := objE) 0 rfl; refine useZ5 hz fun z0 z1 z2 z3 z4 y0 y1 y2 y3 y4 => ?_; go_simp; exact ⟨rfl, hSw.set5 0 rfl (.string memoryError) (.int .i64 0) (.int .i64 0) (.string ⟨#[]⟩) (.bool false)⟩)) (h2 := ?_)
                    simp only [Act.put, pa]; try dsimp only [List.set]
                    refine doneL (h := fun w402 S => ?_)
                    replace S : Sep w (boxN qe252 memoryError :: bytesR (.slice (some ⟨q_30_1, 0, none⟩) i i) (List.replicate i 97) :: heapR h (HX [rowO 1 (by decide) (List.replicate k V.zero), rowO 1 (by decide) (List.replicate M V.zero), rowO 1 (by decide) [], rowO 1 (by decide) [], rowO 1 (by decide) (List.replicate z V.zero), rowO 1 (by decide) ZZ, rowO 1 (by decide) (List.replicate z1 V.zero)]) :: []) w402 := by rw [Hb25_400.out] at S; exact S
                    clear Hb25_400 Kb25_400 K25_3 K25_4
                    obtain ⟨hrs, hrsi⟩ := HRS.out
                    refine named (boxN qe252 memoryError :: bytesR (.slice (some ⟨q_30_1, 0, none⟩) i i) (List.replicate i 97) :: heapR h (HX [rowO 1 (by decide) (List.replicate k V.zero), rowO 1 (by decide) (List.replicate M V.zero), rowO 1 (by decide) [], rowO 1 (by decide) [], rowO 1 (by decide) (List.replicate z V.zero), rowO 1 (by decide) ZZ, rowO 1 (by decide) (List.replicate z1 V.zero)]) :: [] : List Res) fun b26_402 hb26_402 => ?_
                    have Hb26_402 := Lib.hid hb26_402
                    have Kb26_402 : Hid (∀ W (Q : List Res), Sep w (Q ++ b26_402) W → True) := Lib.hid fun W Q T => by
                      rw [hb26_402] at T
                      trivial
                    have Cb26_402_0 : Hid (∀ W (Q : List Res), Sep w (Q ++ b26_402) W → W.cell? ⟨qe252, 0, none⟩ = some (.string memoryError) ∧ W.cell? ⟨qe252, 1, none⟩ = some (.int .i64 0) ∧ W.cell? ⟨qe252, 2, none⟩ = some (.int .i64 0) ∧ W.cell? ⟨qe252, 3, none⟩ = some (.string ⟨#[]⟩) ∧ W.cell? ⟨qe252, 4, none⟩ = some (.bool false)) := Lib.hid fun W Q T => by
                      rw [hb26_402] at T
                      have i0 := T.box (b := qe252) (o := objN memoryError) (Q.length + 0) (by rw [List.getElem?_append_right (by omega), Nat.add_sub_cancel_left]; rfl)
                      exact ⟨cellAt i0 0 rfl, cellAt i0 1 rfl, cellAt i0 2 rfl, cellAt i0 3 rfl, cellAt i0 4 rfl⟩
                    have K26_1 : Hid (∀ W (Q : List Res), Sep w (Q ++ b26_402) W → Calls Tryz.prog 19 #[excN memoryError] W fun e W' => e = .returned (.bool false) ∧ Sep w (Q ++ b26_402) W') := Lib.hid fun W Q T => by
                      exact (none_memory W).mono fun e W' ⟨e1, e2⟩ => ⟨e1, T.later e2⟩
                    have K26_7 : Hid (∀ W (Q : List Res), Sep w (Q ++ b26_402) W → Calls Tryz.prog 19 #[excN memoryError] W fun e W' => e = .returned (.bool false) ∧ Sep w (Q ++ b26_402) W') := Lib.hid fun W Q T => by
                      exact (none_memory W).mono fun e W' ⟨e1, e2⟩ => ⟨e1, T.later e2⟩
                    have K26_16 : Hid (∀ W (Q : List Res), Sep w (Q ++ b26_402) W → Calls Tryz.prog 21 #[excN memoryError, .string memoryError] W fun e W' => e = .returned (.bool true) ∧ Sep w (Q ++ b26_402) W') := Lib.hid fun W Q T => by
                      exact (raised_memory W).mono fun e W' ⟨e1, e2⟩ => ⟨e1, T.later e2⟩
                    replace S := Lib.hid S
                    clear hb26_402
                    go_upto_region 26 with fail
                    have S1 : Sep w ([] ++ b26_402) (w402) := by rw [Hb26_402.out]; exact S.out
                    clear S
                    refine regionL (E := []) (base := b26_402) S1 ?_
                    clear S1
                    refine quietL (hy := fun E Wx hSw => by ((refine and5 (Cb26_402_0.out _ _ hSw) fun u0 u1 u2 u3 u4 => ?_); go_simp; exact ⟨rfl, hSw⟩)) (h := ?_)
                    simp only [Act.put, pa]; try dsimp only [List.set]
                    refine quietL (hy := fun E Wx hSw => by (go_simp; exact symCall (K26_1.out _ _ hSw))) (h := ?_)
                    simp only [Act.put, pa]; try dsimp only [List.set]
                    iterate 4 (refine quietL ?_; simp only [Act.put, pa]; try dsimp only [List.set])
                    refine quietL (hy := fun E Wx hSw => by ((refine and5 (Cb26_402_0.out _ _ hSw) fun u0 u1 u2 u3 u4 => ?_); go_simp; exact ⟨rfl, hSw⟩)) (h := ?_)
                    simp only [Act.put, pa]; try dsimp only [List.set]
                    refine quietL (hy := fun E Wx hSw => by (go_simp; exact symCall (K26_7.out _ _ hSw))) (h := ?_)
                    simp only [Act.put, pa]; try dsimp only [List.set]
                    refine quietL ?_
                    simp only [Act.put, pa]; try dsimp only [List.set]
                    iterate 4 (refine skipL ?_; simp only [Act.put, pa]; try dsimp only [List.set])
                    iterate 2 (refine quietL ?_; simp only [Act.put, pa]; try dsimp only [List.set])
                    refine quietL (hy := fun E Wx hSw => by ((refine and5 (Cb26_402_0.out _ _ hSw) fun u0 u1 u2 u3 u4 => ?_); go_simp; exact ⟨rfl, hSw⟩)) (h := ?_)
                    simp only [Act.put, pa]; try dsimp only [List.set]
                    refine quietL (hy := fun E Wx hSw => by (go_simp; exact symCall (K26_16.out _ _ hSw))) (h := ?_)
                    simp only [Act.put, pa]; try dsimp only [List.set]
                    iterate 7 (refine quietL ?_; simp only [Act.put, pa]; try dsimp only [List.set])
                    refine doneL (h := fun w404 S => ?_)
                    replace S : Sep w (boxN qe252 memoryError :: bytesR (.slice (some ⟨q_30_1, 0, none⟩) i i) (List.replicate i 97) :: heapR h (HX [rowO 1 (by decide) (List.replicate k V.zero), rowO 1 (by decide) (List.replicate M V.zero), rowO 1 (by decide) [], rowO 1 (by decide) [], rowO 1 (by decide) (List.replicate z V.zero), rowO 1 (by decide) ZZ, rowO 1 (by decide) (List.replicate z1 V.zero)]) :: []) w404 := by rw [Hb26_402.out] at S; exact S
                    clear Hb26_402 Kb26_402 K26_1 K26_7 K26_16 Cb26_402_0
                    replace S := Lib.hid S.below
                    go_wp2
                    go_ret
                    exact ⟨rfl, S.out⟩
end Go.Proofs.YtellmfimmghidaaGreat.operateLimits
