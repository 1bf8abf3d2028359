import Derived.Test.YtellmfimmghidaaGreatOprH
/- ch 16: the laws' plain. -/
namespace Go.Proofs.YtellmfimmghidaaGreat
set_option linter.unusedSimpArgs false
open Go.RowKit
set_option linter.unusedVariables false
/-- n & 15, as the model has it. -/
def low15 (n : Int) : Int := bits .and .i64 n 15
theorem low15_in (x : Int) : 0 ≤ low15 x ∧ low15 x ≤ 15 := by
  have h : (BitVec.ofInt 64 x &&& BitVec.ofInt 64 15).toNat ≤ 15 := by
    rw [BitVec.toNat_and]; exact Nat.le_trans Nat.and_le_right (by decide)
  have e : low15 x = IntKind.wrap .i64 ((BitVec.ofInt 64 x &&& BitVec.ofInt 64 15).toNat : Int) := rfl
  have e2 : IntKind.wrap .i64 ((BitVec.ofInt 64 x &&& BitVec.ofInt 64 15).toNat : Int) = ((BitVec.ofInt 64 x &&& BitVec.ofInt 64 15).toNat : Int) := IntWalk.i64_in _ (by omega)
  rw [e, e2]
  omega
/-- A value whose text has eight bytes at most, and whose object is one of sixteen. -/
def plainV (v : V) : V := ⟨v.kind, if v.kind = 4 then low15 v.n else v.n, v.s.extract 0 (min v.s.size 8), v.hk, by
  split
  · have := low15_in v.n; exact okI_of (by omega)
  · exact v.hn, by have := v.hs; rw [ByteArray.size_extract]; omega⟩
section
variable {w W : World} {Rs : List Res} {h : Nat} {H : HeapM}
set_option maxRecDepth 100000 in
set_option maxHeartbeats 12800000 in
theorem plain_no (S : Sep w Rs W) (x : V) (hr : ¬ x.kind = 4) : Calls Tryz.prog 28 #[.agg #[.int .i64 x.kind, .int .i64 x.n, .string x.s]] W fun e W' => e = .returned (.agg #[.int .i64 x.kind, .int .i64 x.n, .string (x.s.extract 0 (min x.s.size 8))]) ∧ Sep w Rs W' := by
  obtain ⟨k, hk⟩ : ∃ k, k = min x.s.size 8 := ⟨_, rfl⟩
  have he : (if (8 : Int) < (x.s.size : Int) then (8 : Int) else (x.s.size : Int)) = (k : Int) := by rw [hk]; split <;> omega
  have he2 : min (x.s.size : Int) 8 = (k : Int) := by omega
  have hl : (k : Int) ≤ (x.s.size : Int) := by omega
  rw [← hk]
  have HK := Lib.hid hk
  have h4 : (x.kind == 4) = false := by simpa using hr
  clear hk hr
  obtain ⟨b, hb⟩ : ∃ gx_, (W.heap.size) = gx_ := ⟨_, rfl⟩
  replace S := ((S.alloc (.cells #[.int .i64 x.kind, .int .i64 x.n, .string x.s] 29)).alloc (.cells #[.int .i64 0, .int .i64 0, .string ⟨#[]⟩] 29))
  simp only [World.size_alloc, hb] at S
  replace S : Sep w (boxZ (b + 1) :: boxV b x :: Rs) ((W.alloc (.cells #[.int .i64 x.kind, .int .i64 x.n, .string x.s] 29)).alloc (.cells #[.int .i64 0, .int .i64 0, .string ⟨#[]⟩] 29)) := S
  obtain ⟨bA, hbs⟩ : ∃ l, l = Rs := ⟨_, rfl⟩
  have HBS := Lib.hid hbs
  replace S : Sep w ([boxZ (b + 1), boxV b x] ++ bA) ((W.alloc (.cells #[.int .i64 x.kind, .int .i64 x.n, .string x.s] 29)).alloc (.cells #[.int .i64 0, .int .i64 0, .string ⟨#[]⟩] 29)) := by
    rw [hbs]
    refine (show Sep w ([boxZ (b + 1), boxV b x] ++ Rs) _ from S).perm ?_
    exact (show ([boxZ (b + 1), boxV b x] ++ Rs).Perm ([boxZ (b + 1), boxV b x] ++ ([] ++ Rs)) from by rw [← List.append_assoc]; exact List.Perm.append_right Rs (by exact perm_of [0, 1] (by show (List.range' 0 2).Perm [0, 1]; decide) (by rfl)))
  clear hbs
  replace S := Lib.hid S
  go_enter Tryz.func28, Tryz.ntmps28
  go_upto_region 1 with fail
  try simp only [World.size_alloc, hb]
  clear hb
  refine regionL (E := [boxZ (b + 1), boxV b x]) (base := bA) S.out ?_
  clear S
  refine quietL ?_
  simp only [pu]
  refine detL _ [boxZ (b + 1), boxV b x] (h1 := fun Wx hSw => by (have hz := hSw.box (b := b) (o := objV x) 1 rfl; have z0 := cellAt hz 0 (v := .int .i64 x.kind) rfl; have z1 := cellAt hz 1 (v := .int .i64 x.n) rfl; have z2 := cellAt hz 2 (v := .string x.s) rfl; go_simp; exact ⟨rfl, hSw⟩)) (h2 := ?_)
  simp only [pu]
  refine quietL ?_
  simp only [pu]
  refine detL _ [boxZ (b + 1), boxV b x] (h1 := fun Wx hSw => by (have hz := hSw.box (b := b) (o := objV x) 1 rfl; have z0 := cellAt hz 0 (v := .int .i64 x.kind) rfl; have z1 := cellAt hz 1 (v := .int .i64 x.n) rfl; have z2 := cellAt hz 2 (v := .string x.s) rfl; go_simp; exact ⟨rfl, hSw⟩)) (h2 := ?_)
  simp only [pu]
  iterate 4 (refine quietL ?_; simp only [pu])
  refine detL undef [boxZ (b + 1), boxW b x.kind x.n (x.s.extract 0 k)] (h1 := fun Wx hSw => by (have hz := hSw.box (b := b) (o := objV x) 1 rfl; have z0 := cellAt hz 2 (v := .string x.s) rfl; have y0 := frozenAt hz 2; go_simp; exact ⟨rfl, (Sep.setBox (cs := #[.int .i64 x.kind, .int .i64 x.n, .string x.s]) (t := 29) hSw 1 rfl 2 (.string (x.s.extract 0 k)))⟩)) (h2 := ?_)
  simp only [pu]
  intro w1 S
  replace S := Lib.hid S
  go_upto_region 2 with fail
  refine regionL (E := [boxZ (b + 1), boxW b x.kind x.n (x.s.extract 0 k)]) (base := bA) S.out ?_
  clear S
  refine quietL ?_
  simp only [pu]
  refine detL _ [boxZ (b + 1), boxW b x.kind x.n (x.s.extract 0 k)] (h1 := fun Wx hSw => by (have hz := hSw.box (b := b) (o := objW x.kind x.n (x.s.extract 0 k)) 1 rfl; have z0 := cellAt hz 0 (v := .int .i64 x.kind) rfl; have z1 := cellAt hz 1 (v := .int .i64 x.n) rfl; have z2 := cellAt hz 2 (v := .string (x.s.extract 0 k)) rfl; go_simp; exact ⟨rfl, hSw⟩)) (h2 := ?_)
  simp only [pu]
  refine quietL ?_
  simp only [pu]
  intro w2 S
  replace S := Lib.hid S
  go_upto_region 4 with fail
  refine regionL (E := [boxZ (b + 1), boxW b x.kind x.n (x.s.extract 0 k)]) (base := bA) S.out ?_
  clear S
  refine detL _ [boxZ (b + 1), boxW b x.kind x.n (x.s.extract 0 k)] (h1 := fun Wx hSw => by (have hz := hSw.box (b := b) (o := objW x.kind x.n (x.s.extract 0 k)) 1 rfl; have z0 := cellAt hz 0 (v := .int .i64 x.kind) rfl; have z1 := cellAt hz 1 (v := .int .i64 x.n) rfl; have z2 := cellAt hz 2 (v := .string (x.s.extract 0 k)) rfl; go_simp; exact ⟨rfl, hSw⟩)) (h2 := ?_)
  simp only [pu]
  refine detL undef [boxW (b + 1) x.kind x.n (x.s.extract 0 k), boxW b x.kind x.n (x.s.extract 0 k)] (h1 := fun Wx hSw => by (have hz := hSw.box (b := (b + 1)) (o := objZ) 0 rfl; refine useZ3 hz fun z0 z1 z2 y0 y1 y2 => ?_; go_simp; exact ⟨rfl, hSw.set3 0 rfl (.int .i64 x.kind) (.int .i64 x.n) (.string (x.s.extract 0 k))⟩)) (h2 := ?_)
  simp only [pu]
  intro w3 S
  replace S := Lib.hid S
  replace S := S.out
  refine useR3 (S.box (b := b + 1) (o := objW x.kind x.n (x.s.extract 0 k)) 0 rfl) fun r0 r1 r2 => ?_
  replace S := Lib.hid S
  go_wp2
  refine bodyPost_ret (v := .agg #[.int .i64 x.kind, .int .i64 x.n, .string (x.s.extract 0 k)]) ?_ ?_ ?_
  · simp [results, Tryz.results28, go_sem, r0, r1, r2]
  · rfl
  refine ⟨rfl, ?_⟩
  replace S := S.out
  rw [HBS.out] at S
  exact S.tail.tail
set_option maxRecDepth 100000 in
set_option maxHeartbeats 12800000 in
theorem plain_ref (S : Sep w Rs W) (x : V) (hr : x.kind = 4) : Calls Tryz.prog 28 #[.agg #[.int .i64 x.kind, .int .i64 x.n, .string x.s]] W fun e W' => e = .returned (.agg #[.int .i64 x.kind, .int .i64 (low15 x.n), .string (x.s.extract 0 (min x.s.size 8))]) ∧ Sep w Rs W' := by
  obtain ⟨k, hk⟩ : ∃ k, k = min x.s.size 8 := ⟨_, rfl⟩
  have he : (if (8 : Int) < (x.s.size : Int) then (8 : Int) else (x.s.size : Int)) = (k : Int) := by rw [hk]; split <;> omega
  have he2 : min (x.s.size : Int) 8 = (k : Int) := by omega
  have hl : (k : Int) ≤ (x.s.size : Int) := by omega
  rw [← hk]
  have HK := Lib.hid hk
  have h4 : (x.kind == 4) = true := by simp [hr]
  clear hk hr
  obtain ⟨m, hm⟩ : ∃ m, m = low15 x.n := ⟨_, rfl⟩
  rw [← hm]
  have hmb : bits .and .i64 x.n 15 = m := hm.symm
  clear hm
  obtain ⟨b, hb⟩ : ∃ gx_, (W.heap.size) = gx_ := ⟨_, rfl⟩
  replace S := ((S.alloc (.cells #[.int .i64 x.kind, .int .i64 x.n, .string x.s] 29)).alloc (.cells #[.int .i64 0, .int .i64 0, .string ⟨#[]⟩] 29))
  simp only [World.size_alloc, hb] at S
  replace S : Sep w (boxZ (b + 1) :: boxV b x :: Rs) ((W.alloc (.cells #[.int .i64 x.kind, .int .i64 x.n, .string x.s] 29)).alloc (.cells #[.int .i64 0, .int .i64 0, .string ⟨#[]⟩] 29)) := S
  obtain ⟨bA, hbs⟩ : ∃ l, l = Rs := ⟨_, rfl⟩
  have HBS := Lib.hid hbs
  replace S : Sep w ([boxZ (b + 1), boxV b x] ++ bA) ((W.alloc (.cells #[.int .i64 x.kind, .int .i64 x.n, .string x.s] 29)).alloc (.cells #[.int .i64 0, .int .i64 0, .string ⟨#[]⟩] 29)) := by
    rw [hbs]
    refine (show Sep w ([boxZ (b + 1), boxV b x] ++ Rs) _ from S).perm ?_
    exact (show ([boxZ (b + 1), boxV b x] ++ Rs).Perm ([boxZ (b + 1), boxV b x] ++ ([] ++ Rs)) from by rw [← List.append_assoc]; exact List.Perm.append_right Rs (by exact perm_of [0, 1] (by show (List.range' 0 2).Perm [0, 1]; decide) (by rfl)))
  clear hbs
  replace S := Lib.hid S
  go_enter Tryz.func28, Tryz.ntmps28
  go_upto_region 1 with fail
  try simp only [World.size_alloc, hb]
  clear hb
  refine regionL (E := [boxZ (b + 1), boxV b x]) (base := bA) S.out ?_
  clear S
  refine quietL ?_
  simp only [pu]
  refine detL _ [boxZ (b + 1), boxV b x] (h1 := fun Wx hSw => by (have hz := hSw.box (b := b) (o := objV x) 1 rfl; have z0 := cellAt hz 0 (v := .int .i64 x.kind) rfl; have z1 := cellAt hz 1 (v := .int .i64 x.n) rfl; have z2 := cellAt hz 2 (v := .string x.s) rfl; go_simp; exact ⟨rfl, hSw⟩)) (h2 := ?_)
  simp only [pu]
  refine quietL ?_
  simp only [pu]
  refine detL _ [boxZ (b + 1), boxV b x] (h1 := fun Wx hSw => by (have hz := hSw.box (b := b) (o := objV x) 1 rfl; have z0 := cellAt hz 0 (v := .int .i64 x.kind) rfl; have z1 := cellAt hz 1 (v := .int .i64 x.n) rfl; have z2 := cellAt hz 2 (v := .string x.s) rfl; go_simp; exact ⟨rfl, hSw⟩)) (h2 := ?_)
  simp only [pu]
  iterate 4 (refine quietL ?_; simp only [pu])
  refine detL undef [boxZ (b + 1), boxW b x.kind x.n (x.s.extract 0 k)] (h1 := fun Wx hSw => by (have hz := hSw.box (b := b) (o := objV x) 1 rfl; have z0 := cellAt hz 2 (v := .string x.s) rfl; have y0 := frozenAt hz 2; go_simp; exact ⟨rfl, (Sep.setBox (cs := #[.int .i64 x.kind, .int .i64 x.n, .string x.s]) (t := 29) hSw 1 rfl 2 (.string (x.s.extract 0 k)))⟩)) (h2 := ?_)
  simp only [pu]
  intro w1 S
  replace S := Lib.hid S
  go_upto_region 2 with fail
  refine regionL (E := [boxZ (b + 1), boxW b x.kind x.n (x.s.extract 0 k)]) (base := bA) S.out ?_
  clear S
  refine quietL ?_
  simp only [pu]
  refine detL _ [boxZ (b + 1), boxW b x.kind x.n (x.s.extract 0 k)] (h1 := fun Wx hSw => by (have hz := hSw.box (b := b) (o := objW x.kind x.n (x.s.extract 0 k)) 1 rfl; have z0 := cellAt hz 0 (v := .int .i64 x.kind) rfl; have z1 := cellAt hz 1 (v := .int .i64 x.n) rfl; have z2 := cellAt hz 2 (v := .string (x.s.extract 0 k)) rfl; go_simp; exact ⟨rfl, hSw⟩)) (h2 := ?_)
  simp only [pu]
  refine quietL ?_
  simp only [pu]
  intro w2 S
  replace S := Lib.hid S
  go_upto_region 3 with fail
  refine regionL (E := [boxZ (b + 1), boxW b x.kind x.n (x.s.extract 0 k)]) (base := bA) S.out ?_
  clear S
  refine quietL ?_
  simp only [pu]
  refine detL _ [boxZ (b + 1), boxW b x.kind x.n (x.s.extract 0 k)] (h1 := fun Wx hSw => by (have hz := hSw.box (b := b) (o := objW x.kind x.n (x.s.extract 0 k)) 1 rfl; have z0 := cellAt hz 0 (v := .int .i64 x.kind) rfl; have z1 := cellAt hz 1 (v := .int .i64 x.n) rfl; have z2 := cellAt hz 2 (v := .string (x.s.extract 0 k)) rfl; go_simp; exact ⟨rfl, hSw⟩)) (h2 := ?_)
  simp only [pu]
  iterate 2 (refine quietL ?_; simp only [pu])
  refine detL undef [boxZ (b + 1), boxW b x.kind m (x.s.extract 0 k)] (h1 := fun Wx hSw => by (have hz := hSw.box (b := b) (o := objW x.kind x.n (x.s.extract 0 k)) 1 rfl; have z0 := cellAt hz 1 (v := .int .i64 x.n) rfl; have y0 := frozenAt hz 1; go_simp; exact ⟨rfl, (Sep.setBox (cs := #[.int .i64 x.kind, .int .i64 x.n, .string (x.s.extract 0 k)]) (t := 29) hSw 1 rfl 1 (.int .i64 m))⟩)) (h2 := ?_)
  simp only [pu]
  intro w3 S
  replace S := Lib.hid S
  go_upto_region 4 with fail
  refine regionL (E := [boxZ (b + 1), boxW b x.kind m (x.s.extract 0 k)]) (base := bA) S.out ?_
  clear S
  refine detL _ [boxZ (b + 1), boxW b x.kind m (x.s.extract 0 k)] (h1 := fun Wx hSw => by (have hz := hSw.box (b := b) (o := objW x.kind m (x.s.extract 0 k)) 1 rfl; have z0 := cellAt hz 0 (v := .int .i64 x.kind) rfl; have z1 := cellAt hz 1 (v := .int .i64 m) rfl; have z2 := cellAt hz 2 (v := .string (x.s.extract 0 k)) rfl; go_simp; exact ⟨rfl, hSw⟩)) (h2 := ?_)
  simp only [pu]
  refine detL undef [boxW (b + 1) x.kind m (x.s.extract 0 k), boxW b x.kind m (x.s.extract 0 k)] (h1 := fun Wx hSw => by (have hz := hSw.box (b := (b + 1)) (o := objZ) 0 rfl; refine useZ3 hz fun z0 z1 z2 y0 y1 y2 => ?_; go_simp; exact ⟨rfl, hSw.set3 0 rfl (.int .i64 x.kind) (.int .i64 m) (.string (x.s.extract 0 k))⟩)) (h2 := ?_)
  simp only [pu]
  intro w4 S
  replace S := Lib.hid S
  replace S := S.out
  refine useR3 (S.box (b := b + 1) (o := objW x.kind m (x.s.extract 0 k)) 0 rfl) fun r0 r1 r2 => ?_
  replace S := Lib.hid S
  go_wp2
  refine bodyPost_ret (v := .agg #[.int .i64 x.kind, .int .i64 m, .string (x.s.extract 0 k)]) ?_ ?_ ?_
  · simp [results, Tryz.results28, go_sem, r0, r1, r2]
  · rfl
  refine ⟨rfl, ?_⟩
  replace S := S.out
  rw [HBS.out] at S
  exact S.tail.tail
theorem lplain_ok (S : Sep w Rs W) (x : V) : Calls Tryz.prog 28 #[.agg #[.int .i64 x.kind, .int .i64 x.n, .string x.s]] W fun e W' => e = .returned (.agg #[.int .i64 (plainV x).kind, .int .i64 (plainV x).n, .string (plainV x).s]) ∧ Sep w Rs W' := by
  unfold plainV
  by_cases hr : x.kind = 4
  · simp only [if_pos hr]; exact plain_ref S x hr
  · simp only [if_neg hr]; exact plain_no S x hr
end
end Go.Proofs.YtellmfimmghidaaGreat
/- ch 16: the laws' rows. -/
namespace Go.Proofs.YtellmfimmghidaaGreat
set_option linter.unusedSimpArgs false
open Go.RowKit
set_option linter.unusedVariables false
section
variable {w W : World} {Rs : List Res} {h : Nat} {H : HeapM}
theorem seesOneV {W : World} {g : Nat} {x : V} {t : TypeId} (hb : W.heap[g]? = some (.cells #[.int .i64 x.kind, .int .i64 x.n, .string x.s] t)) : SeesR V.cells 3 W (.slice (some ⟨g, 0, none⟩) 1 1) [x] := by
  refine ⟨_, _, rfl, Nat.le_refl _, by unfold maxLen; simp, .inr ⟨g, 0, rfl, fun i v hv => ?_⟩⟩
  match i, hv with
  | 0, hv =>
    simp at hv; subst hv
    intro j u hu
    match j, hu with
    | 0, hu => simp [V.cells] at hu; subst hu; exact cellAt hb 0 rfl
    | 1, hu => simp [V.cells] at hu; subst hu; exact cellAt hb 1 rfl
    | 2, hu => simp [V.cells] at hu; subst hu; exact cellAt hb 2 rfl
    | j + 3, hu => simp [V.cells] at hu
  | i + 1, hv => simp at hv
set_option maxRecDepth 100000 in
set_option maxHeartbeats 12800000 in
theorem rows_list (S : Sep w Rs W) (i : Nat) (hi : Rs[i]? = some (heapR h H)) {N : Nat} (G : H.Good N) (hN : N + 1 ≤ 4000000) (sl : Value) (l : List V) (hs : SeesV w sl l) : Calls Tryz.prog 38 #[.pointer (some ⟨h, 0, none⟩), .bool false, sl] W fun e W' => e = .returned (.tuple #[.agg #[.int .i64 4, .int .i64 (H.last + 1), .string ⟨#[]⟩], .int .i64 (l.take 8).length]) ∧ Sep w (Rs.set i (heapR h (H.add (rowO 1 (by decide) ((l.take 8).map plainV))))) W' := by
  obtain ⟨a0, c0, rfl, q1, q2, q3⟩ := hs
  have HQ := Lib.hid q3
  have hll : (l.length : Int) ≤ 9223372036854775807 := by unfold maxLen at q2; omega
  clear q1 q2 q3
  obtain ⟨b, hb⟩ : ∃ gx_, (W.heap.size) = gx_ := ⟨_, rfl⟩
  replace S := (S.alloc (.cells #[.int .i64 0, .int .i64 0, .string ⟨#[]⟩] 29))
  simp only [World.size_alloc, hb] at S
  replace S : Sep w (boxZ b :: Rs) (W.alloc (.cells #[.int .i64 0, .int .i64 0, .string ⟨#[]⟩] 29)) := S
  obtain ⟨bA, hbs⟩ : ∃ l, l = Rs := ⟨_, rfl⟩
  have HBS := Lib.hid hbs
  replace S : Sep w ([boxZ b] ++ bA) (W.alloc (.cells #[.int .i64 0, .int .i64 0, .string ⟨#[]⟩] 29)) := by
    rw [hbs]
    refine (show Sep w ([boxZ b] ++ Rs) _ from S).perm ?_
    exact (show ([boxZ b] ++ Rs).Perm ([boxZ b] ++ ([] ++ Rs)) from by rw [← List.append_assoc]; exact List.Perm.append_right Rs (by exact perm_of [0] (by show (List.range' 0 1).Perm [0]; decide) (by rfl)))
  clear hbs
  replace S := Lib.hid S
  go_enter Tryz.func38, Tryz.ntmps38
  go_upto_region 1 with fail
  try simp only [World.size_alloc, hb]
  clear hb
  refine regionL (E := [emptyR, boxZ b]) (base := bA) (Sep.putE S.out) ?_
  clear S
  refine stepL (fun v E1 => ∃ (q1 : Nat), v = .slice (some ⟨q1, 0, none⟩) 0 0 ∧ E1 = [valsR (.slice (some ⟨q1, 0, none⟩) 0 0) [], boxZ b]) (h1 := fun Wx hSw => by (go_simp; exact ⟨_, ⟨_, rfl, rfl⟩, (hSw.madeRow V.cells 3 29).into 0 rfl⟩)) (h2 := fun v E1 hvE => ?_)
  obtain ⟨q1, rfl, rfl⟩ := hvE
  simp only [pu]
  refine quietL ?_
  simp only [pu]
  intro w1 S
  replace S := Lib.hid S
  go_wp2
  go_loopw [8, 9] (fun s8 s9 wr => ∃ k : Nat, k ≤ l.length ∧ k ≤ 8 ∧ s9 = .int .i64 k ∧ ∃ a c, s8 = .slice a k c ∧ Sep w ([valsR (.slice a k c) ((l.take k).map plainV), boxZ b] ++ bA) wr) (fun _ s9 _ => 8 - (intOf s9).toNat)
  case atStart => exact ⟨0, by omega, by omega, rfl, _, _, rfl, S.out⟩
  case round =>
    obtain ⟨k, hkl, hk8, rfl, a, c, rfl, S⟩ := hrel
    replace S := Lib.hid S
    by_cases hlt : k < l.length ∧ k < 8
    · obtain ⟨h1, h2⟩ := hlt
      have hc1 : (k : Int) < l.length := by omega
      have hc2 : (k : Int) < 8 := by omega
      obtain ⟨x, hx⟩ : ∃ x, l[k]? = some x := ⟨l[k], by simp [h1]⟩
      obtain ⟨g, og, rfl, hc⟩ : ∃ g og, a0 = some ⟨g, og, none⟩ ∧ ∀ i v, l[i]? = some v → w.cell? ⟨g, og + i * 3, none⟩ = some (.int .i64 v.kind) ∧ w.cell? ⟨g, og + i * 3 + 1, none⟩ = some (.int .i64 v.n) ∧ w.cell? ⟨g, og + i * 3 + 2, none⟩ = some (.string v.s) := by
        rcases HQ.out with h | h
        · subst h; simp at hx
        · exact h
      have CX : Hid (∀ W (Q : List Res), Sep w (Q ++ bA) W → W.cell? ⟨g, og + k * 3, none⟩ = some (.int .i64 x.kind) ∧ W.cell? ⟨g, og + k * 3 + 1, none⟩ = some (.int .i64 x.n) ∧ W.cell? ⟨g, og + k * 3 + 2, none⟩ = some (.string x.s)) := Lib.hid fun W Q T => by
        obtain ⟨c1, c2, c3⟩ := hc k x hx
        exact ⟨cellBelow c1 T.below, cellBelow c2 T.below, cellBelow c3 T.below⟩
      have HXX := Lib.hid hx
      clear hc hx
      have KP : KC w bA 28 #[agV x] (.agg #[.int .i64 (plainV x).kind, .int .i64 (plainV x).n, .string (plainV x).s]) := Lib.hid fun W Q T => by
        exact lplain_ok T x
      go_upto_region 5 with fail
      refine regionL (E := [emptyR, valsR (.slice a k c) ((l.take k).map plainV), boxZ b]) (base := bA) (Sep.putE S.out) ?_
      clear S
      iterate 4 (refine quietL ?_; simp only [pu])
      refine quietLC CX ?_
      simp only [pu]
      refine quietLK KP ?_
      simp only [pu]
      refine allocL 0 rfl (fun q => .slice (some ⟨q, 0, none⟩) 1 1) (.cells #[.int .i64 (plainV x).kind, .int .i64 (plainV x).n, .string (plainV x).s] 29) (h1 := fun Wx => by go_simp) (h2 := fun qQ1 => ?_)
      simp only [pu]
      try simp only [List.set_cons_zero, List.set_cons_succ]
      refine stepL (fun v E1 => ∃ (va2 : Option Addr) (vc2 : Nat), v = .slice va2 (k + 1) vc2 ∧ E1 = [boxV qQ1 (plainV x), valsR (.slice va2 (k + 1) vc2) ((l.take k).map plainV ++ [plainV x]), boxZ b]) (h1 := fun Wx hSw => by (have e0 : ((l.take k).map plainV).length = k := (by rw [List.length_map, List.length_take]; omega); obtain ⟨va, vc, w2, hr, S2⟩ := run_append_rows (f := V.cells) 22 29 22 Tryz.underlying22 _ _ info_val rfl (by decide) (by decide) V.cells_len (fun p u hu => by simp [V.cells] at hu; rcases hu with rfl | rfl | rfl <;> rfl) hSw 1 rfl (.slice (some ⟨qQ1, 0, none⟩) 1 1) [plainV x] (seesOneV (hSw.box (b := qQ1) 0 rfl)) (by rw [e0]; show k + 1 ≤ 9000000; omega); rw [e0] at hr S2; exact symAppend _ _ _ _ rfl _ _ rfl rfl hr ⟨_, ⟨va, vc, rfl, rfl⟩, S2⟩)) (h2 := fun v E1 hvE => ?_)
      obtain ⟨va2, vc2, rfl, rfl⟩ := hvE
      simp only [pu]
      refine quietL ?_
      simp only [pu]
      intro w2 S
      replace S := Lib.hid S
      have e2 : (l.take k).map plainV ++ [plainV x] = (l.take (k + 1)).map plainV := by rw [List.take_add_one, HXX.out]; simp
      replace S := S.out
      rw [e2] at S
      replace S := Lib.hid S.tail
      clear e2 CX KP
      go_wp2
      exact ⟨⟨k + 1, by omega, by omega, by go_num, _, _, rfl, S.out⟩, by simp [intOf]; omega⟩
    · have hk : k = (l.take 8).length := by rw [List.length_take]; omega
      have ht : l.take k = l.take 8 := by rw [List.take_eq_take_iff]; omega
      have HK := Lib.hid hk
      have HT := Lib.hid ht
      have hnot : ¬ ((k : Int) < l.length ∧ (k : Int) < 8) := by omega
      have HNT := Lib.hid hnot
      clear hk ht hnot
      have hz : (k : Int) < l.length → ¬ (k : Int) < 8 := fun a b => HNT.out ⟨a, b⟩
      by_cases g1 : (k : Int) < l.length
      · have g2 : ¬ (k : Int) < 8 := hz g1
        clear hz hlt
        have SS := S
        replace S := S.out
        rw [HBS.out] at S
        have e3 : ((l.take 8).map plainV).length = k := by rw [List.length_map, ← HK.out]
        have hv : SeesV wr (.slice a k c) ((l.take 8).map plainV) := by
          have hh := (S.row 0 rfl).sees'
          rw [HT.out] at hh
          exact hh
        have M := Lib.hid (S.make (i + 2) (by simpa using hi) G hN (rowO 1 (by decide) ((l.take 8).map plainV)) (.slice a k c) hv (by show ((l.take 8).map plainV).length ≤ 4194304; rw [e3]; omega) rfl (by simp [rowO]) (by simp [rowO]))
        clear hv e3
        clear S SS
        go_wp2_with fail
        refine M.out.mono ?_
        rintro e w9 ⟨rfl, S⟩
        clear M
        have hz := S.box (b := b) (o := objZ) 1 rfl
        have z0 := cellAt hz 0 (v := .int .i64 0) rfl
        have y0 := frozenAt hz 0
        have z1 := cellAt hz 1 (v := .int .i64 0) rfl
        have y1 := frozenAt hz 1
        have z2 := cellAt hz 2 (v := .string ⟨#[]⟩) rfl
        have y2 := frozenAt hz 2
        have S9 := Lib.hid (S.toAny (q := b) 1 rfl)
        have FR : Hid (∀ W', Sep w (valsR (.slice a k c) ((l.take k).map plainV) :: anyR b :: Rs.set i (heapR h (H.add (rowO 1 (by decide) ((l.take 8).map plainV))))) W' → Sep w (Rs.set i (heapR h (H.add (rowO 1 (by decide) ((l.take 8).map plainV))))) W') := Lib.hid fun W' T => T.tail.tail
        clear S hz
        go_wp2
        refine bodyPost_ret (v := .tuple #[.agg #[.int .i64 4, .int .i64 (H.last + 1), .string ⟨#[]⟩], .int .i64 k]) ?_ ?_ ?_
        · simp [results, Tryz.results38, go_sem, z0, z1, z2]
        · rfl
        refine ⟨by rw [← HK.out], FR.out _ ?_⟩
        iterate 3 refine Sep.poke (q := b) ?_ 1 rfl _ _
        exact S9.out
      · skip
        clear hz hlt
        have SS := S
        replace S := S.out
        rw [HBS.out] at S
        have e3 : ((l.take 8).map plainV).length = k := by rw [List.length_map, ← HK.out]
        have hv : SeesV wr (.slice a k c) ((l.take 8).map plainV) := by
          have hh := (S.row 0 rfl).sees'
          rw [HT.out] at hh
          exact hh
        have M := Lib.hid (S.make (i + 2) (by simpa using hi) G hN (rowO 1 (by decide) ((l.take 8).map plainV)) (.slice a k c) hv (by show ((l.take 8).map plainV).length ≤ 4194304; rw [e3]; omega) rfl (by simp [rowO]) (by simp [rowO]))
        clear hv e3
        clear S SS
        go_wp2_with fail
        refine M.out.mono ?_
        rintro e w9 ⟨rfl, S⟩
        clear M
        have hz := S.box (b := b) (o := objZ) 1 rfl
        have z0 := cellAt hz 0 (v := .int .i64 0) rfl
        have y0 := frozenAt hz 0
        have z1 := cellAt hz 1 (v := .int .i64 0) rfl
        have y1 := frozenAt hz 1
        have z2 := cellAt hz 2 (v := .string ⟨#[]⟩) rfl
        have y2 := frozenAt hz 2
        have S9 := Lib.hid (S.toAny (q := b) 1 rfl)
        have FR : Hid (∀ W', Sep w (valsR (.slice a k c) ((l.take k).map plainV) :: anyR b :: Rs.set i (heapR h (H.add (rowO 1 (by decide) ((l.take 8).map plainV))))) W' → Sep w (Rs.set i (heapR h (H.add (rowO 1 (by decide) ((l.take 8).map plainV))))) W') := Lib.hid fun W' T => T.tail.tail
        clear S hz
        go_wp2
        refine bodyPost_ret (v := .tuple #[.agg #[.int .i64 4, .int .i64 (H.last + 1), .string ⟨#[]⟩], .int .i64 k]) ?_ ?_ ?_
        · simp [results, Tryz.results38, go_sem, z0, z1, z2]
        · rfl
        refine ⟨by rw [← HK.out], FR.out _ ?_⟩
        iterate 3 refine Sep.poke (q := b) ?_ 1 rfl _ _
        exact S9.out
set_option maxRecDepth 100000 in
set_option maxHeartbeats 12800000 in
theorem rows_tuple (S : Sep w Rs W) (i : Nat) (hi : Rs[i]? = some (heapR h H)) {N : Nat} (G : H.Good N) (hN : N + 1 ≤ 4000000) (sl : Value) (l : List V) (hs : SeesV w sl l) : Calls Tryz.prog 38 #[.pointer (some ⟨h, 0, none⟩), .bool true, sl] W fun e W' => e = .returned (.tuple #[.agg #[.int .i64 4, .int .i64 (H.last + 1), .string ⟨#[]⟩], .int .i64 (l.take 8).length]) ∧ Sep w (Rs.set i (heapR h (H.add (rowO 2 (by decide) ((l.take 8).map plainV))))) W' := by
  obtain ⟨a0, c0, rfl, q1, q2, q3⟩ := hs
  have HQ := Lib.hid q3
  have hll : (l.length : Int) ≤ 9223372036854775807 := by unfold maxLen at q2; omega
  clear q1 q2 q3
  obtain ⟨b, hb⟩ : ∃ gx_, (W.heap.size) = gx_ := ⟨_, rfl⟩
  replace S := (S.alloc (.cells #[.int .i64 0, .int .i64 0, .string ⟨#[]⟩] 29))
  simp only [World.size_alloc, hb] at S
  replace S : Sep w (boxZ b :: Rs) (W.alloc (.cells #[.int .i64 0, .int .i64 0, .string ⟨#[]⟩] 29)) := S
  obtain ⟨bA, hbs⟩ : ∃ l, l = Rs := ⟨_, rfl⟩
  have HBS := Lib.hid hbs
  replace S : Sep w ([boxZ b] ++ bA) (W.alloc (.cells #[.int .i64 0, .int .i64 0, .string ⟨#[]⟩] 29)) := by
    rw [hbs]
    refine (show Sep w ([boxZ b] ++ Rs) _ from S).perm ?_
    exact (show ([boxZ b] ++ Rs).Perm ([boxZ b] ++ ([] ++ Rs)) from by rw [← List.append_assoc]; exact List.Perm.append_right Rs (by exact perm_of [0] (by show (List.range' 0 1).Perm [0]; decide) (by rfl)))
  clear hbs
  replace S := Lib.hid S
  go_enter Tryz.func38, Tryz.ntmps38
  go_upto_region 1 with fail
  try simp only [World.size_alloc, hb]
  clear hb
  refine regionL (E := [emptyR, boxZ b]) (base := bA) (Sep.putE S.out) ?_
  clear S
  refine stepL (fun v E1 => ∃ (q1 : Nat), v = .slice (some ⟨q1, 0, none⟩) 0 0 ∧ E1 = [valsR (.slice (some ⟨q1, 0, none⟩) 0 0) [], boxZ b]) (h1 := fun Wx hSw => by (go_simp; exact ⟨_, ⟨_, rfl, rfl⟩, (hSw.madeRow V.cells 3 29).into 0 rfl⟩)) (h2 := fun v E1 hvE => ?_)
  obtain ⟨q1, rfl, rfl⟩ := hvE
  simp only [pu]
  refine quietL ?_
  simp only [pu]
  intro w1 S
  replace S := Lib.hid S
  go_wp2
  go_loopw [8, 9] (fun s8 s9 wr => ∃ k : Nat, k ≤ l.length ∧ k ≤ 8 ∧ s9 = .int .i64 k ∧ ∃ a c, s8 = .slice a k c ∧ Sep w ([valsR (.slice a k c) ((l.take k).map plainV), boxZ b] ++ bA) wr) (fun _ s9 _ => 8 - (intOf s9).toNat)
  case atStart => exact ⟨0, by omega, by omega, rfl, _, _, rfl, S.out⟩
  case round =>
    obtain ⟨k, hkl, hk8, rfl, a, c, rfl, S⟩ := hrel
    replace S := Lib.hid S
    by_cases hlt : k < l.length ∧ k < 8
    · obtain ⟨h1, h2⟩ := hlt
      have hc1 : (k : Int) < l.length := by omega
      have hc2 : (k : Int) < 8 := by omega
      obtain ⟨x, hx⟩ : ∃ x, l[k]? = some x := ⟨l[k], by simp [h1]⟩
      obtain ⟨g, og, rfl, hc⟩ : ∃ g og, a0 = some ⟨g, og, none⟩ ∧ ∀ i v, l[i]? = some v → w.cell? ⟨g, og + i * 3, none⟩ = some (.int .i64 v.kind) ∧ w.cell? ⟨g, og + i * 3 + 1, none⟩ = some (.int .i64 v.n) ∧ w.cell? ⟨g, og + i * 3 + 2, none⟩ = some (.string v.s) := by
        rcases HQ.out with h | h
        · subst h; simp at hx
        · exact h
      have CX : Hid (∀ W (Q : List Res), Sep w (Q ++ bA) W → W.cell? ⟨g, og + k * 3, none⟩ = some (.int .i64 x.kind) ∧ W.cell? ⟨g, og + k * 3 + 1, none⟩ = some (.int .i64 x.n) ∧ W.cell? ⟨g, og + k * 3 + 2, none⟩ = some (.string x.s)) := Lib.hid fun W Q T => by
        obtain ⟨c1, c2, c3⟩ := hc k x hx
        exact ⟨cellBelow c1 T.below, cellBelow c2 T.below, cellBelow c3 T.below⟩
      have HXX := Lib.hid hx
      clear hc hx
      have KP : KC w bA 28 #[agV x] (.agg #[.int .i64 (plainV x).kind, .int .i64 (plainV x).n, .string (plainV x).s]) := Lib.hid fun W Q T => by
        exact lplain_ok T x
      go_upto_region 5 with fail
      refine regionL (E := [emptyR, valsR (.slice a k c) ((l.take k).map plainV), boxZ b]) (base := bA) (Sep.putE S.out) ?_
      clear S
      iterate 4 (refine quietL ?_; simp only [pu])
      refine quietLC CX ?_
      simp only [pu]
      refine quietLK KP ?_
      simp only [pu]
      refine allocL 0 rfl (fun q => .slice (some ⟨q, 0, none⟩) 1 1) (.cells #[.int .i64 (plainV x).kind, .int .i64 (plainV x).n, .string (plainV x).s] 29) (h1 := fun Wx => by go_simp) (h2 := fun qQ1 => ?_)
      simp only [pu]
      try simp only [List.set_cons_zero, List.set_cons_succ]
      refine stepL (fun v E1 => ∃ (va2 : Option Addr) (vc2 : Nat), v = .slice va2 (k + 1) vc2 ∧ E1 = [boxV qQ1 (plainV x), valsR (.slice va2 (k + 1) vc2) ((l.take k).map plainV ++ [plainV x]), boxZ b]) (h1 := fun Wx hSw => by (have e0 : ((l.take k).map plainV).length = k := (by rw [List.length_map, List.length_take]; omega); obtain ⟨va, vc, w2, hr, S2⟩ := run_append_rows (f := V.cells) 22 29 22 Tryz.underlying22 _ _ info_val rfl (by decide) (by decide) V.cells_len (fun p u hu => by simp [V.cells] at hu; rcases hu with rfl | rfl | rfl <;> rfl) hSw 1 rfl (.slice (some ⟨qQ1, 0, none⟩) 1 1) [plainV x] (seesOneV (hSw.box (b := qQ1) 0 rfl)) (by rw [e0]; show k + 1 ≤ 9000000; omega); rw [e0] at hr S2; exact symAppend _ _ _ _ rfl _ _ rfl rfl hr ⟨_, ⟨va, vc, rfl, rfl⟩, S2⟩)) (h2 := fun v E1 hvE => ?_)
      obtain ⟨va2, vc2, rfl, rfl⟩ := hvE
      simp only [pu]
      refine quietL ?_
      simp only [pu]
      intro w2 S
      replace S := Lib.hid S
      have e2 : (l.take k).map plainV ++ [plainV x] = (l.take (k + 1)).map plainV := by rw [List.take_add_one, HXX.out]; simp
      replace S := S.out
      rw [e2] at S
      replace S := Lib.hid S.tail
      clear e2 CX KP
      go_wp2
      exact ⟨⟨k + 1, by omega, by omega, by go_num, _, _, rfl, S.out⟩, by simp [intOf]; omega⟩
    · have hk : k = (l.take 8).length := by rw [List.length_take]; omega
      have ht : l.take k = l.take 8 := by rw [List.take_eq_take_iff]; omega
      have HK := Lib.hid hk
      have HT := Lib.hid ht
      have hnot : ¬ ((k : Int) < l.length ∧ (k : Int) < 8) := by omega
      have HNT := Lib.hid hnot
      clear hk ht hnot
      have hz : (k : Int) < l.length → ¬ (k : Int) < 8 := fun a b => HNT.out ⟨a, b⟩
      by_cases g1 : (k : Int) < l.length
      · have g2 : ¬ (k : Int) < 8 := hz g1
        clear hz hlt
        have SS := S
        replace S := S.out
        rw [HBS.out] at S
        have e3 : ((l.take 8).map plainV).length = k := by rw [List.length_map, ← HK.out]
        have hv : SeesV wr (.slice a k c) ((l.take 8).map plainV) := by
          have hh := (S.row 0 rfl).sees'
          rw [HT.out] at hh
          exact hh
        have M := Lib.hid (S.make (i + 2) (by simpa using hi) G hN (rowO 2 (by decide) ((l.take 8).map plainV)) (.slice a k c) hv (by show ((l.take 8).map plainV).length ≤ 4194304; rw [e3]; omega) rfl (by simp [rowO]) (by simp [rowO]))
        clear hv e3
        clear S SS
        go_wp2_with fail
        refine M.out.mono ?_
        rintro e w9 ⟨rfl, S⟩
        clear M
        have hz := S.box (b := b) (o := objZ) 1 rfl
        have z0 := cellAt hz 0 (v := .int .i64 0) rfl
        have y0 := frozenAt hz 0
        have z1 := cellAt hz 1 (v := .int .i64 0) rfl
        have y1 := frozenAt hz 1
        have z2 := cellAt hz 2 (v := .string ⟨#[]⟩) rfl
        have y2 := frozenAt hz 2
        have S9 := Lib.hid (S.toAny (q := b) 1 rfl)
        have FR : Hid (∀ W', Sep w (valsR (.slice a k c) ((l.take k).map plainV) :: anyR b :: Rs.set i (heapR h (H.add (rowO 2 (by decide) ((l.take 8).map plainV))))) W' → Sep w (Rs.set i (heapR h (H.add (rowO 2 (by decide) ((l.take 8).map plainV))))) W') := Lib.hid fun W' T => T.tail.tail
        clear S hz
        go_wp2
        refine bodyPost_ret (v := .tuple #[.agg #[.int .i64 4, .int .i64 (H.last + 1), .string ⟨#[]⟩], .int .i64 k]) ?_ ?_ ?_
        · simp [results, Tryz.results38, go_sem, z0, z1, z2]
        · rfl
        refine ⟨by rw [← HK.out], FR.out _ ?_⟩
        iterate 3 refine Sep.poke (q := b) ?_ 1 rfl _ _
        exact S9.out
      · skip
        clear hz hlt
        have SS := S
        replace S := S.out
        rw [HBS.out] at S
        have e3 : ((l.take 8).map plainV).length = k := by rw [List.length_map, ← HK.out]
        have hv : SeesV wr (.slice a k c) ((l.take 8).map plainV) := by
          have hh := (S.row 0 rfl).sees'
          rw [HT.out] at hh
          exact hh
        have M := Lib.hid (S.make (i + 2) (by simpa using hi) G hN (rowO 2 (by decide) ((l.take 8).map plainV)) (.slice a k c) hv (by show ((l.take 8).map plainV).length ≤ 4194304; rw [e3]; omega) rfl (by simp [rowO]) (by simp [rowO]))
        clear hv e3
        clear S SS
        go_wp2_with fail
        refine M.out.mono ?_
        rintro e w9 ⟨rfl, S⟩
        clear M
        have hz := S.box (b := b) (o := objZ) 1 rfl
        have z0 := cellAt hz 0 (v := .int .i64 0) rfl
        have y0 := frozenAt hz 0
        have z1 := cellAt hz 1 (v := .int .i64 0) rfl
        have y1 := frozenAt hz 1
        have z2 := cellAt hz 2 (v := .string ⟨#[]⟩) rfl
        have y2 := frozenAt hz 2
        have S9 := Lib.hid (S.toAny (q := b) 1 rfl)
        have FR : Hid (∀ W', Sep w (valsR (.slice a k c) ((l.take k).map plainV) :: anyR b :: Rs.set i (heapR h (H.add (rowO 2 (by decide) ((l.take 8).map plainV))))) W' → Sep w (Rs.set i (heapR h (H.add (rowO 2 (by decide) ((l.take 8).map plainV))))) W') := Lib.hid fun W' T => T.tail.tail
        clear S hz
        go_wp2
        refine bodyPost_ret (v := .tuple #[.agg #[.int .i64 4, .int .i64 (H.last + 1), .string ⟨#[]⟩], .int .i64 k]) ?_ ?_ ?_
        · simp [results, Tryz.results38, go_sem, z0, z1, z2]
        · rfl
        refine ⟨by rw [← HK.out], FR.out _ ?_⟩
        iterate 3 refine Sep.poke (q := b) ?_ 1 rfl _ _
        exact S9.out
end
end Go.Proofs.YtellmfimmghidaaGreat
