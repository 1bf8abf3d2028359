/- ch 16: the reference's Repr, Str. -/
import Derived.Test.YtijlebhoapdfnaaGreatRTelD
set_option maxRecDepth 100000
set_option maxHeartbeats 12800000
namespace Go.Proofs.YtijlebhoapdfnaaGreat
set_option linter.unusedSimpArgs false
open Go.RowKit
set_option linter.unusedVariables false
attribute [local irreducible] wpSeqS wpAnyS wpPreS
section
variable {w W : World} {Rs : List Res} {t h : Nat} {H : HeapM} {T : TelM} {P : V → Prop}
theorem rtell_ok {N : Nat} (G : H.Good N) (hN : N ≤ 4000000) (PP : ∀ v, P v → H.wholeB v = false → (H.wholeB v = false ∧ (0 ≤ H.kind v ∧ H.kind v ≤ 12) ∧ (H.name v).size ≤ 1000000 ∧ v.s.size ≤ 1000000 ∧ okI v.n) ∧ (H.plainL v).length ≤ 9000000) (PI : ∀ v x, P v → x ∈ H.items v → P x) (PK : ∀ v p, P v → p ∈ H.pairs v → P p.1 ∧ P ((H.get v p.1).getD V.zero)) : ∀ f, TellR w t h H P f
 | 0 => rtell_step G hN PP PI PK 0 fun g hg => by omega
 | f + 1 => rtell_step G hN PP PI PK (f + 1) fun g hg => by
  obtain rfl : f = g := by omega
  exact rtell_ok G hN PP PI PK f
theorem reprV_parts (t : TelM) : ∃ s nm, reprV t = .tuple #[.string s, excN nm] := by
 obtain ⟨o, f⟩ := t
 cases f <;> exact ⟨_, _, rfl⟩
theorem rrepr_ok {N : Nat} (G : H.Good N) (hN : N ≤ 4000000) (PP : ∀ v, P v → H.wholeB v = false → (H.wholeB v = false ∧ (0 ≤ H.kind v ∧ H.kind v ≤ 12) ∧ (H.name v).size ≤ 1000000 ∧ v.s.size ≤ 1000000 ∧ okI v.n) ∧ (H.plainL v).length ≤ 9000000) (PI : ∀ v x, P v → x ∈ H.items v → P x) (PK : ∀ v p, P v → p ∈ H.pairs v → P p.1 ∧ P ((H.get v p.1).getD V.zero)) (S : Sep w Rs W) (i : Nat) (hi : Rs[i]? = some (refR h H)) (v : V) (hv : P v) : Calls Tryz.prog 31 #[.pointer (some ⟨h, 0, none⟩), .agg #[.int .i64 v.kind, .int .i64 v.n, .string v.s]] W fun e W' => e = .returned (reprV (H.reprM v)) ∧ Sep w Rs W' := by
 obtain ⟨T1, hT1⟩ : ∃ x, H.tellG 30 v ⟨[], .no⟩ = x := ⟨_, rfl⟩
 have hrv : reprV (H.reprM v) = reprV T1 := by rw [← hT1]; exact Sim.repr (HeapM.tell_sim 30 v _ _ (Sim.refl _))
 rw [hrv]
 have HT : Hid (∀ q, TellR w q h H P 30) := Lib.hid fun q => rtell_ok G hN PP PI PK 30
 have XT1 := Lib.hid hT1
 have HV := Lib.hid hv
 have HI := Lib.hid hi
 clear hT1 hrv PP PI PK hv
 obtain ⟨b, hb⟩ : ∃ gx_, (W.heap.size) = gx_ := ⟨_, rfl⟩
 replace S := ((S.alloc (.cells #[.int .i64 v.kind, .int .i64 v.n, .string v.s] 24)).alloc (.cells #[.string ⟨#[]⟩, .int .i64 0, .int .i64 0, .string ⟨#[]⟩, .bool false] 33))
 simp only [World.size_alloc, hb] at S
 obtain ⟨bA, hbs⟩ : ∃ l, l = boxV b v :: Rs := ⟨_, rfl⟩
 have HBS := Lib.hid hbs
 replace S := enterP (w := w) (all := [boxE (b + 1), boxV b v]) (E := [boxE (b + 1)]) (B := [boxV b v]) (Rs := Rs) S hbs (perm_of [0, 1] (by show (List.range' 0 2).Perm [0, 1]; decide) (by rfl))
 have C0 := baseC3 (w := w) (b := b) hbs 0 rfl
 clear hbs
 replace S := Lib.hid S
 go_enter Tryz.func31, Tryz.ntmps31
 go_upto_region 1 with fail
 try simp only [World.size_alloc, hb]
 clear hb
 refine regionL (E := [emptyR, boxE (b + 1)]) (base := bA) (Sep.putE S.out) ?_
 clear S
 iterate 2 refine qa ?_
 refine allocL 0 rfl (fun q => .pointer (some ⟨q, 0, none⟩)) (.cells #[.pointer (some ⟨h, 0, none⟩), .string ⟨#[]⟩, .string ⟨#[]⟩, .int .i64 0, .int .i64 0, .string ⟨#[]⟩, .bool false] 149) (h1 := fun Wx => by go_simp) (h2 := fun qt1 => ?_); simp only [Act.put, pa]; try dsimp only [List.set]
 try simp only [List.set_cons_zero, List.set_cons_succ]
 refine qa ?_
 refine doneL (h := fun w1 S => ?_)
 replace S := Lib.hid S
 have HIA : Hid (bA[i + 1]? = some (refR h H)) := Lib.hid (by rw [HBS.out]; simpa using HI.out)
 go_upto_region 2 with fail
 refine regionL (E := [boxR qt1 (.cells #[.pointer (some ⟨h, 0, none⟩), .string ⟨#[]⟩, .string ⟨#[]⟩, .int .i64 0, .int .i64 0, .string ⟨#[]⟩, .bool false] 149), boxE (b + 1)]) (base := bA) S.out ?_
 clear S
 refine qa ?_
 refine qc C0 ?_
 refine qd (.tuple #[]) [boxR qt1 (.cells #[.pointer (some ⟨h, 0, none⟩), .string ⟨List.toArray T1.out⟩, .string T1.fell.name, .int .i64 0, .int .i64 0, .string ⟨#[]⟩, .bool false] 149), boxE (b + 1)] (h1 := fun Wx hSw => by (go_simp; refine symCall ?_; have hh := HT.out _ _ _ ⟨[], .no⟩ hSw (i + 2) (by simpa using HIA.out) (by simp) v HV.out 0 (by simp) (by simp); rw [XT1.out] at hh; exact hh)) (h2 := ?_)
 refine doneL (h := fun w2 S => ?_)
 replace S := Lib.hid S
 obtain ⟨out, fell⟩ := T1
 cases fell with
 | memory =>
  replace S : Hid (Sep w ([boxR qt1 (.cells #[.pointer (some ⟨h, 0, none⟩), .string ⟨List.toArray out⟩, .string memoryError, .int .i64 0, .int .i64 0, .string ⟨#[]⟩, .bool false] 149), boxE (b + 1)] ++ bA) w2) := S
  go_upto_region 3 with fail
  refine regionL (E := [boxR qt1 (.cells #[.pointer (some ⟨h, 0, none⟩), .string ⟨List.toArray out⟩, .string memoryError, .int .i64 0, .int .i64 0, .string ⟨#[]⟩, .bool false] 149), boxE (b + 1)]) (base := bA) S.out ?_
  clear S
  iterate 3 refine qa ?_
  refine qd _ [boxR qt1 (.cells #[.pointer (some ⟨h, 0, none⟩), .string ⟨List.toArray out⟩, .string memoryError, .int .i64 0, .int .i64 0, .string ⟨#[]⟩, .bool false] 149), boxE (b + 1)] (h1 := fun Wx hSw => by (have hz := hSw.box (b := qt1) (o := .cells #[.pointer (some ⟨h, 0, none⟩), .string ⟨List.toArray out⟩, .string memoryError, .int .i64 0, .int .i64 0, .string ⟨#[]⟩, .bool false] 149) 0 rfl; have z0 := cellAt hz 0 (v := .pointer (some ⟨h, 0, none⟩)) rfl; have z1 := cellAt hz 1 (v := .string ⟨List.toArray out⟩) rfl; have z2 := cellAt hz 2 (v := .string memoryError) rfl; have z3 := cellAt hz 3 (v := .int .i64 0) rfl; have z4 := cellAt hz 4 (v := .int .i64 0) rfl; have z5 := cellAt hz 5 (v := .string ⟨#[]⟩) rfl; have z6 := cellAt hz 6 (v := .bool false) rfl; go_simp; exact ⟨rfl, hSw⟩)) (h2 := ?_)
  iterate 2 refine qa ?_
  refine doneL (h := fun w3 S => ?_)
  replace S := Lib.hid S
  go_upto_region 4 with fail
  go_upto_region 4 with fail
  refine regionP 3 3 (E := [boxR qt1 (.cells #[.pointer (some ⟨h, 0, none⟩), .string ⟨List.toArray out⟩, .string memoryError, .int .i64 0, .int .i64 0, .string ⟨#[]⟩, .bool false] 149), boxE (b + 1)]) (base := bA) S.out ?_
  clear S
  iterate 3 refine qp ?_
  refine endP ?_
  refine qs 4 ?_
  refine readyS [3] ?_
  refine detS _ [boxR qt1 (.cells #[.pointer (some ⟨h, 0, none⟩), .string ⟨List.toArray out⟩, .string memoryError, .int .i64 0, .int .i64 0, .string ⟨#[]⟩, .bool false] 149), boxE (b + 1)] (h1 := fun Wx hSw => by (have hz := hSw.box (b := qt1) (o := .cells #[.pointer (some ⟨h, 0, none⟩), .string ⟨List.toArray out⟩, .string memoryError, .int .i64 0, .int .i64 0, .string ⟨#[]⟩, .bool false] 149) 0 rfl; have z0 := cellAt hz 0 (v := .pointer (some ⟨h, 0, none⟩)) rfl; have z1 := cellAt hz 1 (v := .string ⟨List.toArray out⟩) rfl; have z2 := cellAt hz 2 (v := .string memoryError) rfl; have z3 := cellAt hz 3 (v := .int .i64 0) rfl; have z4 := cellAt hz 4 (v := .int .i64 0) rfl; have z5 := cellAt hz 5 (v := .string ⟨#[]⟩) rfl; have z6 := cellAt hz 6 (v := .bool false) rfl; go_simp; exact ⟨rfl, hSw⟩)) (h2 := ?_) (hs := nilS); simp only [Act.put, pa]; try dsimp only [List.set]
  refine readyS [5] ?_
  refine detS undef [boxR qt1 (.cells #[.pointer (some ⟨h, 0, none⟩), .string ⟨List.toArray out⟩, .string memoryError, .int .i64 0, .int .i64 0, .string ⟨#[]⟩, .bool false] 149), boxN (b + 1) memoryError] (h1 := fun Wx hSw => by (have hz := hSw.box (b := (b + 1)) (o := objE) 1 rfl; refine useZ5 hz fun z0 z1 z2 z3 z4 y0 y1 y2 y3 y4 => ?_; go_simp; exact ⟨rfl, hSw.set5 1 rfl (.string memoryError) (.int .i64 0) (.int .i64 0) (.string ⟨#[]⟩) (.bool false)⟩)) (h2 := ?_) (hs := nilS); simp only [Act.put, pa]; try dsimp only [List.set]
  refine doneS (h := fun w4 S => ?_)
  refine useR5 (S.box (b := b + 1) (o := objN memoryError) 1 rfl) fun r0 r1 r2 r3 r4 => ?_
  replace S := Lib.hid S
  repeat (first | go_values | go_skip | go_guarded | go_step)
  refine bodyPost_ret (v := .tuple #[.string ⟨#[]⟩, excN memoryError]) ?_ ?_ ?_
  ·
   simp [results, Tryz.results31, go_sem, r0, r1, r2, r3, r4]
  ·
   rfl
  refine ⟨rfl, ?_⟩
  replace S := S.out
  rw [HBS.out] at S
  exact S.tail.tail.tail
 | deep =>
  replace S : Hid (Sep w ([boxR qt1 (.cells #[.pointer (some ⟨h, 0, none⟩), .string ⟨List.toArray out⟩, .string recursionError, .int .i64 0, .int .i64 0, .string ⟨#[]⟩, .bool false] 149), boxE (b + 1)] ++ bA) w2) := S
  go_upto_region 3 with fail
  refine regionL (E := [boxR qt1 (.cells #[.pointer (some ⟨h, 0, none⟩), .string ⟨List.toArray out⟩, .string recursionError, .int .i64 0, .int .i64 0, .string ⟨#[]⟩, .bool false] 149), boxE (b + 1)]) (base := bA) S.out ?_
  clear S
  iterate 3 refine qa ?_
  refine qd _ [boxR qt1 (.cells #[.pointer (some ⟨h, 0, none⟩), .string ⟨List.toArray out⟩, .string recursionError, .int .i64 0, .int .i64 0, .string ⟨#[]⟩, .bool false] 149), boxE (b + 1)] (h1 := fun Wx hSw => by (have hz := hSw.box (b := qt1) (o := .cells #[.pointer (some ⟨h, 0, none⟩), .string ⟨List.toArray out⟩, .string recursionError, .int .i64 0, .int .i64 0, .string ⟨#[]⟩, .bool false] 149) 0 rfl; have z0 := cellAt hz 0 (v := .pointer (some ⟨h, 0, none⟩)) rfl; have z1 := cellAt hz 1 (v := .string ⟨List.toArray out⟩) rfl; have z2 := cellAt hz 2 (v := .string recursionError) rfl; have z3 := cellAt hz 3 (v := .int .i64 0) rfl; have z4 := cellAt hz 4 (v := .int .i64 0) rfl; have z5 := cellAt hz 5 (v := .string ⟨#[]⟩) rfl; have z6 := cellAt hz 6 (v := .bool false) rfl; go_simp; exact ⟨rfl, hSw⟩)) (h2 := ?_)
  iterate 2 refine qa ?_
  refine doneL (h := fun w5 S => ?_)
  replace S := Lib.hid S
  go_upto_region 4 with fail
  go_upto_region 4 with fail
  refine regionP 3 3 (E := [boxR qt1 (.cells #[.pointer (some ⟨h, 0, none⟩), .string ⟨List.toArray out⟩, .string recursionError, .int .i64 0, .int .i64 0, .string ⟨#[]⟩, .bool false] 149), boxE (b + 1)]) (base := bA) S.out ?_
  clear S
  iterate 3 refine qp ?_
  refine endP ?_
  refine qs 4 ?_
  refine readyS [3] ?_
  refine detS _ [boxR qt1 (.cells #[.pointer (some ⟨h, 0, none⟩), .string ⟨List.toArray out⟩, .string recursionError, .int .i64 0, .int .i64 0, .string ⟨#[]⟩, .bool false] 149), boxE (b + 1)] (h1 := fun Wx hSw => by (have hz := hSw.box (b := qt1) (o := .cells #[.pointer (some ⟨h, 0, none⟩), .string ⟨List.toArray out⟩, .string recursionError, .int .i64 0, .int .i64 0, .string ⟨#[]⟩, .bool false] 149) 0 rfl; have z0 := cellAt hz 0 (v := .pointer (some ⟨h, 0, none⟩)) rfl; have z1 := cellAt hz 1 (v := .string ⟨List.toArray out⟩) rfl; have z2 := cellAt hz 2 (v := .string recursionError) rfl; have z3 := cellAt hz 3 (v := .int .i64 0) rfl; have z4 := cellAt hz 4 (v := .int .i64 0) rfl; have z5 := cellAt hz 5 (v := .string ⟨#[]⟩) rfl; have z6 := cellAt hz 6 (v := .bool false) rfl; go_simp; exact ⟨rfl, hSw⟩)) (h2 := ?_) (hs := nilS); simp only [Act.put, pa]; try dsimp only [List.set]
  refine readyS [5] ?_
  refine detS undef [boxR qt1 (.cells #[.pointer (some ⟨h, 0, none⟩), .string ⟨List.toArray out⟩, .string recursionError, .int .i64 0, .int .i64 0, .string ⟨#[]⟩, .bool false] 149), boxN (b + 1) recursionError] (h1 := fun Wx hSw => by (have hz := hSw.box (b := (b + 1)) (o := objE) 1 rfl; refine useZ5 hz fun z0 z1 z2 z3 z4 y0 y1 y2 y3 y4 => ?_; go_simp; exact ⟨rfl, hSw.set5 1 rfl (.string recursionError) (.int .i64 0) (.int .i64 0) (.string ⟨#[]⟩) (.bool false)⟩)) (h2 := ?_) (hs := nilS); simp only [Act.put, pa]; try dsimp only [List.set]
  refine doneS (h := fun w6 S => ?_)
  refine useR5 (S.box (b := b + 1) (o := objN recursionError) 1 rfl) fun r0 r1 r2 r3 r4 => ?_
  replace S := Lib.hid S
  repeat (first | go_values | go_skip | go_guarded | go_step)
  refine bodyPost_ret (v := .tuple #[.string ⟨#[]⟩, excN recursionError]) ?_ ?_ ?_
  ·
   simp [results, Tryz.results31, go_sem, r0, r1, r2, r3, r4]
  ·
   rfl
  refine ⟨rfl, ?_⟩
  replace S := S.out
  rw [HBS.out] at S
  exact S.tail.tail.tail
 | no =>
  replace S : Hid (Sep w ([boxR qt1 (.cells #[.pointer (some ⟨h, 0, none⟩), .string ⟨List.toArray out⟩, .string ⟨#[]⟩, .int .i64 0, .int .i64 0, .string ⟨#[]⟩, .bool false] 149), boxE (b + 1)] ++ bA) w2) := S
  go_upto_region 3 with fail
  refine regionL (E := [boxR qt1 (.cells #[.pointer (some ⟨h, 0, none⟩), .string ⟨List.toArray out⟩, .string ⟨#[]⟩, .int .i64 0, .int .i64 0, .string ⟨#[]⟩, .bool false] 149), boxE (b + 1)]) (base := bA) S.out ?_
  clear S
  iterate 3 refine qa ?_
  refine qd _ [boxR qt1 (.cells #[.pointer (some ⟨h, 0, none⟩), .string ⟨List.toArray out⟩, .string ⟨#[]⟩, .int .i64 0, .int .i64 0, .string ⟨#[]⟩, .bool false] 149), boxE (b + 1)] (h1 := fun Wx hSw => by (have hz := hSw.box (b := qt1) (o := .cells #[.pointer (some ⟨h, 0, none⟩), .string ⟨List.toArray out⟩, .string ⟨#[]⟩, .int .i64 0, .int .i64 0, .string ⟨#[]⟩, .bool false] 149) 0 rfl; have z0 := cellAt hz 0 (v := .pointer (some ⟨h, 0, none⟩)) rfl; have z1 := cellAt hz 1 (v := .string ⟨List.toArray out⟩) rfl; have z2 := cellAt hz 2 (v := .string ⟨#[]⟩) rfl; have z3 := cellAt hz 3 (v := .int .i64 0) rfl; have z4 := cellAt hz 4 (v := .int .i64 0) rfl; have z5 := cellAt hz 5 (v := .string ⟨#[]⟩) rfl; have z6 := cellAt hz 6 (v := .bool false) rfl; go_simp; exact ⟨rfl, hSw⟩)) (h2 := ?_)
  iterate 2 refine qa ?_
  refine doneL (h := fun w7 S => ?_)
  replace S := Lib.hid S
  go_upto_region 5 with fail
  refine regionL (E := [boxR qt1 (.cells #[.pointer (some ⟨h, 0, none⟩), .string ⟨List.toArray out⟩, .string ⟨#[]⟩, .int .i64 0, .int .i64 0, .string ⟨#[]⟩, .bool false] 149), boxE (b + 1)]) (base := bA) S.out ?_
  clear S
  iterate 3 refine qa ?_
  refine qd _ [boxR qt1 (.cells #[.pointer (some ⟨h, 0, none⟩), .string ⟨List.toArray out⟩, .string ⟨#[]⟩, .int .i64 0, .int .i64 0, .string ⟨#[]⟩, .bool false] 149), boxE (b + 1)] (h1 := fun Wx hSw => by (have hz := hSw.box (b := qt1) (o := .cells #[.pointer (some ⟨h, 0, none⟩), .string ⟨List.toArray out⟩, .string ⟨#[]⟩, .int .i64 0, .int .i64 0, .string ⟨#[]⟩, .bool false] 149) 0 rfl; have z0 := cellAt hz 0 (v := .pointer (some ⟨h, 0, none⟩)) rfl; have z1 := cellAt hz 1 (v := .string ⟨List.toArray out⟩) rfl; have z2 := cellAt hz 2 (v := .string ⟨#[]⟩) rfl; have z3 := cellAt hz 3 (v := .int .i64 0) rfl; have z4 := cellAt hz 4 (v := .int .i64 0) rfl; have z5 := cellAt hz 5 (v := .string ⟨#[]⟩) rfl; have z6 := cellAt hz 6 (v := .bool false) rfl; go_simp; exact ⟨rfl, hSw⟩)) (h2 := ?_)
  iterate 2 refine qa ?_
  refine qd undef [boxR qt1 (.cells #[.pointer (some ⟨h, 0, none⟩), .string ⟨List.toArray out⟩, .string ⟨#[]⟩, .int .i64 0, .int .i64 0, .string ⟨#[]⟩, .bool false] 149), boxE (b + 1)] (h1 := fun Wx hSw => by (have hz := hSw.box (b := (b + 1)) (o := objE) 1 rfl; refine useZ5 hz fun z0 z1 z2 z3 z4 y0 y1 y2 y3 y4 => ?_; go_simp; exact ⟨rfl, hSw.set5 1 rfl (.string ⟨#[]⟩) (.int .i64 0) (.int .i64 0) (.string ⟨#[]⟩) (.bool false)⟩)) (h2 := ?_)
  refine doneL (h := fun w8 S => ?_)
  refine useR5 (S.box (b := b + 1) (o := objE) 1 rfl) fun r0 r1 r2 r3 r4 => ?_
  replace S := Lib.hid S
  repeat (first | go_values | go_skip | go_guarded | go_step)
  refine bodyPost_ret (v := .tuple #[.string ⟨List.toArray out⟩, excZ]) ?_ ?_ ?_
  ·
   simp [results, Tryz.results31, go_sem, r0, r1, r2, r3, r4]
  ·
   rfl
  refine ⟨rfl, ?_⟩
  replace S := S.out
  rw [HBS.out] at S
  exact S.tail.tail.tail
theorem rstr_str (S : Sep w Rs W) (v : V) (hk : v.kind = 3) : Calls Tryz.prog 33 #[.pointer (some ⟨h, 0, none⟩), .agg #[.int .i64 v.kind, .int .i64 v.n, .string v.s]] W fun e W' => e = .returned (.tuple #[.string v.s, excZ]) ∧ Sep w Rs W' := by
 have e1 : (v.kind == 3) = true := by simp [hk]
 clear hk
 obtain ⟨b, hb⟩ : ∃ gx_, (W.heap.size) = gx_ := ⟨_, rfl⟩
 replace S := ((S.alloc (.cells #[.int .i64 v.kind, .int .i64 v.n, .string v.s] 24)).alloc (.cells #[.string ⟨#[]⟩, .int .i64 0, .int .i64 0, .string ⟨#[]⟩, .bool false] 33))
 simp only [World.size_alloc, hb] at S
 obtain ⟨bA, hbs⟩ : ∃ l, l = boxV b v :: Rs := ⟨_, rfl⟩
 have HBS := Lib.hid hbs
 replace S := enterP (w := w) (all := [boxE (b + 1), boxV b v]) (E := [boxE (b + 1)]) (B := [boxV b v]) (Rs := Rs) S hbs (perm_of [0, 1] (by show (List.range' 0 2).Perm [0, 1]; decide) (by rfl))
 have C0 := baseC3 (w := w) (b := b) hbs 0 rfl
 clear hbs
 replace S := Lib.hid S
 go_enter Tryz.func33, Tryz.ntmps33
 go_upto_region 1 with fail
 try simp only [World.size_alloc, hb]
 clear hb
 refine regionL (E := [boxE (b + 1)]) (base := bA) S.out ?_
 clear S
 refine qa ?_
 refine qc C0 ?_
 refine qa ?_
 refine doneL (h := fun w1 S => ?_)
 replace S := Lib.hid S
 go_upto_region 2 with fail
 refine regionL (E := [boxE (b + 1)]) (base := bA) S.out ?_
 clear S
 refine qa ?_
 refine qc C0 ?_
 iterate 2 refine qa ?_
 refine qd undef [boxE (b + 1)] (h1 := fun Wx hSw => by (have hz := hSw.box (b := (b + 1)) (o := objE) 0 rfl; refine useZ5 hz fun z0 z1 z2 z3 z4 y0 y1 y2 y3 y4 => ?_; go_simp; exact ⟨rfl, hSw.set5 0 rfl (.string ⟨#[]⟩) (.int .i64 0) (.int .i64 0) (.string ⟨#[]⟩) (.bool false)⟩)) (h2 := ?_)
 refine doneL (h := fun w2 S => ?_)
 refine useR5 (S.box (b := b + 1) (o := objE) 0 rfl) fun r0 r1 r2 r3 r4 => ?_
 replace S := Lib.hid S
 repeat (first | go_values | go_skip | go_guarded | go_step)
 refine bodyPost_ret (v := .tuple #[.string v.s, excZ]) ?_ ?_ ?_
 ·
  simp [results, Tryz.results33, go_sem, r0, r1, r2, r3, r4]
 ·
  rfl
 refine ⟨rfl, ?_⟩
 replace S := S.out
 rw [HBS.out] at S
 exact S.tail.tail
theorem rstr_other {N : Nat} (G : H.Good N) (hN : N ≤ 4000000) (PP : ∀ v, P v → H.wholeB v = false → (H.wholeB v = false ∧ (0 ≤ H.kind v ∧ H.kind v ≤ 12) ∧ (H.name v).size ≤ 1000000 ∧ v.s.size ≤ 1000000 ∧ okI v.n) ∧ (H.plainL v).length ≤ 9000000) (PI : ∀ v x, P v → x ∈ H.items v → P x) (PK : ∀ v p, P v → p ∈ H.pairs v → P p.1 ∧ P ((H.get v p.1).getD V.zero)) (S : Sep w Rs W) (i : Nat) (hi : Rs[i]? = some (refR h H)) (v : V) (hv : P v) (hk : ¬ v.kind = 3) : Calls Tryz.prog 33 #[.pointer (some ⟨h, 0, none⟩), .agg #[.int .i64 v.kind, .int .i64 v.n, .string v.s]] W fun e W' => e = .returned (reprV (H.reprM v)) ∧ Sep w Rs W' := by
 obtain ⟨sx, nm, hR⟩ := reprV_parts (H.reprM v)
 have HREP : Hid (∀ {Rs : List Res} {W : World} (S : Sep w Rs W) (i : Nat) (hi : Rs[i]? = some (refR h H)), Calls Tryz.prog 31 #[.pointer (some ⟨h, 0, none⟩), .agg #[.int .i64 v.kind, .int .i64 v.n, .string v.s]] W fun e W' => e = .returned (.tuple #[.string sx, excN nm]) ∧ Sep w Rs W') := Lib.hid fun S i hi => by rw [← hR]; exact rrepr_ok G hN PP PI PK S i hi v hv
 rw [hR]
 clear hR PP PI PK hv
 have e1 : (v.kind == 3) = false := by simp [hk]
 clear hk
 obtain ⟨b, hb⟩ : ∃ gx_, (W.heap.size) = gx_ := ⟨_, rfl⟩
 replace S := ((S.alloc (.cells #[.int .i64 v.kind, .int .i64 v.n, .string v.s] 24)).alloc (.cells #[.string ⟨#[]⟩, .int .i64 0, .int .i64 0, .string ⟨#[]⟩, .bool false] 33))
 simp only [World.size_alloc, hb] at S
 obtain ⟨bA, hbs⟩ : ∃ l, l = boxV b v :: Rs := ⟨_, rfl⟩
 have HBS := Lib.hid hbs
 replace S := enterP (w := w) (all := [boxE (b + 1), boxV b v]) (E := [boxE (b + 1)]) (B := [boxV b v]) (Rs := Rs) S hbs (perm_of [0, 1] (by show (List.range' 0 2).Perm [0, 1]; decide) (by rfl))
 have C0 := baseC3 (w := w) (b := b) hbs 0 rfl
 clear hbs
 replace S := Lib.hid S
 go_enter Tryz.func33, Tryz.ntmps33
 go_upto_region 1 with fail
 try simp only [World.size_alloc, hb]
 clear hb
 have KR : QuietC w bA 31 #[hpV h, agV v] (.tuple #[.string sx, excN nm]) := Lib.hid fun W Q T => by
  rw [HBS.out] at T ⊢
  exact HREP.out T (Q.length + 1 + i) (atI1 hi)
 refine regionL (E := [boxE (b + 1)]) (base := bA) S.out ?_
 clear S
 refine qa ?_
 refine qc C0 ?_
 refine qa ?_
 refine doneL (h := fun w1 S => ?_)
 replace S := Lib.hid S
 go_upto_region 3 with fail
 refine regionL (E := [boxE (b + 1)]) (base := bA) S.out ?_
 clear S
 refine qa ?_
 refine qc C0 ?_
 refine qk KR ?_
 iterate 3 refine qa ?_
 refine qd undef [boxN (b + 1) nm] (h1 := fun Wx hSw => by (have hz := hSw.box (b := (b + 1)) (o := objE) 0 rfl; refine useZ5 hz fun z0 z1 z2 z3 z4 y0 y1 y2 y3 y4 => ?_; go_simp; exact ⟨rfl, hSw.set5 0 rfl (.string nm) (.int .i64 0) (.int .i64 0) (.string ⟨#[]⟩) (.bool false)⟩)) (h2 := ?_)
 refine doneL (h := fun w2 S => ?_)
 refine useR5 (S.box (b := b + 1) (o := objN nm) 0 rfl) fun r0 r1 r2 r3 r4 => ?_
 replace S := Lib.hid S
 repeat (first | go_values | go_skip | go_guarded | go_step)
 refine bodyPost_ret (v := .tuple #[.string sx, excN nm]) ?_ ?_ ?_
 ·
  simp [results, Tryz.results33, go_sem, r0, r1, r2, r3, r4]
 ·
  rfl
 refine ⟨rfl, ?_⟩
 replace S := S.out
 rw [HBS.out] at S
 exact S.tail.tail
end
end Go.Proofs.YtijlebhoapdfnaaGreat
