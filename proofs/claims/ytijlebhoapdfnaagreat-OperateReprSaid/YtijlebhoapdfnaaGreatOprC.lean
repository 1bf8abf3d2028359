/- ch 16: same, as symbolic runs. -/
import Derived.Test.YtijlebhoapdfnaaGreatRegS
import Derived.Test.YtijlebhoapdfnaaGreatOprA
/- ch 16: one, same. -/
set_option maxRecDepth 100000
set_option maxHeartbeats 2000000
namespace Go.Proofs.YtijlebhoapdfnaaGreat
set_option linter.unusedSimpArgs false
open Go.RowKit
set_option linter.unusedVariables false
section
attribute [local go_sem] Oper.semAt_some
theorem eql_vals (W : World) (x y : V) (b : Bool) (hb : decide (x = y) = b) : (binOp .eql 24 (.agg #[.int .i64 x.kind, .int .i64 x.n, .string x.s]) (.agg #[.int .i64 y.kind, .int .i64 y.n, .string y.s])).run Tryz.prog W = .ok (.bool b) W := by
 go_simp
 have hx := V.eq_iff x y
 subst hb
 by_cases h1 : x.kind = y.kind
 ·
  by_cases h2 : x.n = y.n
  ·
   by_cases h3 : x.s.toList = y.s.toList
   ·
    simp [h1, h2, h3, hx]
   ·
    simp [h1, h2, h3, hx]
  ·
   simp [h1, h2, hx]
 ·
  simp [h1, hx]
end
section
variable {w W : World} {Rs : List Res} {h : Nat} {H : HeapM}
theorem one_ok (S : Sep w Rs W) (i : Nat) (hi : Rs[i]? = some (heapR h H)) (x y : V) (r : Bool) (hr : H.oneB x y = r) :
  Calls Tryz.prog 114 #[.pointer (some ⟨h, 0, none⟩), .agg #[.int .i64 x.kind, .int .i64 x.n, .string x.s], .agg #[.int .i64 y.kind, .int .i64 y.n, .string y.s]] W fun e W' => e = .returned (.bool r) ∧ Sep w Rs W' := by
 subst hr
 obtain ⟨b, hb⟩ : ∃ gx_, (W.heap.size) = gx_ := ⟨_, rfl⟩
 have S1 := (S.alloc (.cells #[.int .i64 x.kind, .int .i64 x.n, .string x.s] 24)).alloc (.cells #[.int .i64 y.kind, .int .i64 y.n, .string y.s] 24)
 simp only [World.size_alloc, hb] at S1
 obtain ⟨d00, d01, d02⟩ := wpVal x (S1.box (b := b) 1 rfl)
 obtain ⟨d10, d11, d12⟩ := wpVal y (S1.box (b := b + 1) 0 rfl)
 obtain ⟨k, hk⟩ : ∃ k, H.kind x = k := ⟨_, rfl⟩
 obtain ⟨m, hm⟩ : ∃ k, H.kind y = k := ⟨_, rfl⟩
 have C1 := Lib.hid (fun W (S2 : Sep w (boxV (b + 1) y :: boxV b x :: Rs) W) => kind_at S2 (i + 2) (by simpa using hi) x k hk)
 have C2 := Lib.hid (fun W (S2 : Sep w (boxV (b + 1) y :: boxV b x :: Rs) W) => kind_at S2 (i + 2) (by simpa using hi) y m hm)
 have e : H.oneB x y = if k = 0 ∧ m = 0 then decide (x = y) else decide (k ≠ 0) && (decide (m ≠ 0) && decide (x.n = y.n)) := by unfold HeapM.oneB; rw [hk, hm]
 rw [e]
 have EQ := eql_vals (x := x) (y := y) (b := decide (x = y)) (hb := rfl)
 have M1 := Lib.hid (C1.out _ S1)
 clear S S1 hi hk hm e
 go_enter Tryz.func114, Tryz.ntmps114
 go_wp2_with fail
 try simp only [World.size_alloc, hb]
 refine M1.out.mono ?_
 rintro e w1 ⟨rfl, S2⟩
 clear M1 d00 d01 d02 d10 d11 d12 hb
 obtain ⟨d00, d01, d02⟩ := wpVal x (S2.box (b := b) 1 rfl)
 obtain ⟨d10, d11, d12⟩ := wpVal y (S2.box (b := b + 1) 0 rfl)
 by_cases h1 : k = 0
 ·
  subst h1
  have M2 := Lib.hid (C2.out _ S2)
  clear S2
  go_wp2_with fail
  refine M2.out.mono ?_
  rintro e w2 ⟨rfl, S3⟩
  clear M2 d00 d01 d02 d10 d11 d12
  obtain ⟨d00, d01, d02⟩ := wpVal x (S3.box (b := b) 1 rfl)
  obtain ⟨d10, d11, d12⟩ := wpVal y (S3.box (b := b + 1) 0 rfl)
  by_cases h2 : m = 0
  ·
   subst h2
   have HS := Lib.hid S3.tail.tail
   clear S3
   go_wp2
   go_ret
   exact ⟨by simp, HS.out⟩
  ·
   have M3 := Lib.hid (C1.out _ S3)
   clear S3
   go_wp2_with fail
   refine M3.out.mono ?_
   rintro e w3 ⟨rfl, S4⟩
   have HS := Lib.hid S4.tail.tail
   clear S4 M3 d00 d01 d02 d10 d11 d12
   go_wp2
   go_ret
   exact ⟨by simp [h2], HS.out⟩
 ·
  have M3 := Lib.hid (C1.out _ S2)
  clear S2
  go_wp2_with fail
  refine M3.out.mono ?_
  rintro e w3 ⟨rfl, S4⟩
  clear M3 d00 d01 d02 d10 d11 d12
  obtain ⟨d00, d01, d02⟩ := wpVal x (S4.box (b := b) 1 rfl)
  obtain ⟨d10, d11, d12⟩ := wpVal y (S4.box (b := b + 1) 0 rfl)
  have M4 := Lib.hid (C2.out _ S4)
  clear S4
  go_wp2_with fail
  refine M4.out.mono ?_
  rintro e w4 ⟨rfl, S5⟩
  clear M4 d00 d01 d02 d10 d11 d12
  obtain ⟨d00, d01, d02⟩ := wpVal x (S5.box (b := b) 1 rfl)
  obtain ⟨d10, d11, d12⟩ := wpVal y (S5.box (b := b + 1) 0 rfl)
  have HS := Lib.hid S5.tail.tail
  clear S5
  by_cases h2 : m = 0
  ·
   subst h2
   go_wp2
   go_ret
   exact ⟨by simp [h1], HS.out⟩
  ·
   go_wp2
   go_ret
   exact ⟨by simp [h1, h2, BEq.beq], HS.out⟩
end
end Go.Proofs.YtijlebhoapdfnaaGreat
set_option maxRecDepth 100000
set_option maxHeartbeats 12800000
namespace Go.Proofs.YtijlebhoapdfnaaGreat
set_option linter.unusedSimpArgs false
open Go.RowKit
set_option linter.unusedVariables false
theorem allM_stop {α : Type} {p : α → Option Bool} : ∀ {l : List α} {k : Nat} {x : α}, l[k]? = some x → (∀ y ∈ l.take k, p y = some true) → p x ≠ some true → allM p l = p x
 | [], k, x, h, _, _ => by simp at h
 | a :: l, 0, x, h, _, hp => by
  simp at h; subst h
  unfold allM
  split
  ·
   rename_i e; exact absurd e hp
  ·
   rfl
 | a :: l, k + 1, x, h, ha, hp => by
  have h1 : p a = some true := ha a (by simp)
  unfold allM
  rw [h1]
  exact allM_stop (l := l) (k := k) (by simpa using h) (fun y hy => ha y (by simp [hy])) hp
theorem allM_all {α : Type} {p : α → Option Bool} : ∀ {l : List α}, (∀ y ∈ l, p y = some true) → allM p l = some true
 | [], _ => rfl
 | a :: l, ha => by
  unfold allM
  rw [ha a (by simp)]
  exact allM_all fun y hy => ha y (by simp [hy])
theorem take_snoc {α : Type} {l : List α} {k : Nat} {x : α} (h : l[k]? = some x) {p : α → Prop} (ha : ∀ y ∈ l.take k, p y) (hx : p x) : ∀ y ∈ l.take (k + 1), p y := by
 intro y hy
 rw [List.take_add_one, h] at hy
 rcases List.mem_append.1 hy with hh | hh
 ·
  exact ha y hh
 ·
  simp at hh; subst hh; exact hx
theorem eqV_ifs (W : World) {x y : V} {b : Bool} (hb : decide (x = y) = b) : (if x.kind = y.kind then if x.n = y.n then if x.s.toList = y.s.toList then Result.ok (Next.value (Value.bool true)) W else Result.ok (Next.value (Value.bool false)) W else Result.ok (Next.value (Value.bool false)) W else Result.ok (Next.value (Value.bool false)) W) = Result.ok (Next.value (Value.bool b)) W := by
 by_cases h : x = y
 ·
  subst h; rw [decide_eq_true rfl] at hb; subst hb; simp
 ·
  rw [decide_eq_false h] at hb; subst hb
  by_cases h1 : x.kind = y.kind
  ·
   by_cases h2 : x.n = y.n
   ·
    have h3 : ¬ x.s.toList = y.s.toList := fun e => h (by
     have e3 : x.s = y.s := by rw [ByteArray.toList_eq, ByteArray.toList_eq] at e; exact ByteArray.ext (Array.toList_inj.1 e)
     cases x; cases y; simp_all)
    rw [if_pos h1, if_pos h2, if_neg h3]
   ·
    rw [if_pos h1, if_neg h2]
  ·
   rw [if_neg h1]
theorem same_c1 {r : Bool} {a b : Int} (e : true = (!r || (a != b))) : r = false ∨ a ≠ b := by cases r <;> simp_all
theorem same_c0 {r : Bool} {a b : Int} (e : false = (!r || (a != b))) : r = true ∧ b = a := by cases r <;> simp_all
section
variable {w W : World} {Rs : List Res} {h : Nat} {H : HeapM}
theorem get_at (S : Sep w Rs W) (i : Nat) (hi : Rs[i]? = some (heapR h H)) (v k y : V) (r : Bool) (hy : (H.get v k).getD V.zero = y) (hr : (H.get v k).isSome = r) : Calls Tryz.prog 80 #[.pointer (some ⟨h, 0, none⟩), .agg #[.int .i64 v.kind, .int .i64 v.n, .string v.s], .agg #[.int .i64 k.kind, .int .i64 k.n, .string k.s]] W fun e W' => e = .returned (.tuple #[.agg #[.int .i64 y.kind, .int .i64 y.n, .string y.s], .bool r]) ∧ Sep w Rs W' := by
 subst hy hr
 exact (S.get_ i hi v k).mono fun e W' hh => ⟨hh.1, hh.2.1⟩
theorem items_at (S : Sep w Rs W) (i : Nat) (hi : Rs[i]? = some (heapR h H)) {N : Nat} (G : H.Good N) (hN : N ≤ 4000000) (v : V) (l : List V) (hl : H.items v = l) : Calls Tryz.prog 78 #[.pointer (some ⟨h, 0, none⟩), .agg #[.int .i64 v.kind, .int .i64 v.n, .string v.s]] W fun e W' => ∃ a c, e = .returned (.slice a l.length c) ∧ Sep w (valsR (.slice a l.length c) l :: Rs) W' := by
 subst hl
 refine (S.items i hi G hN v).mono fun e W' ⟨sv, h1, h2, _⟩ => ?_
 obtain ⟨a, c, rfl⟩ := (h2.row 0 rfl).form
 exact ⟨a, c, h1, h2⟩
theorem keys_at (S : Sep w Rs W) (i : Nat) (hi : Rs[i]? = some (heapR h H)) (v : V) (l : List V) (hl : (H.pairs v).map (·.1) = l) : Calls Tryz.prog 79 #[.pointer (some ⟨h, 0, none⟩), .agg #[.int .i64 v.kind, .int .i64 v.n, .string v.s]] W fun e W' => ∃ a c, e = .returned (.slice a l.length c) ∧ Sep w (valsR (.slice a l.length c) l :: Rs) W' := by
 subst hl
 refine (S.keys i hi v).mono fun e W' ⟨sv, h1, h2, _⟩ => ?_
 obtain ⟨a, c, rfl⟩ := (h2.row 0 rfl).form
 exact ⟨a, c, h1, h2⟩
theorem raise_ok (W : World) (s : ByteArray) : Calls Tryz.prog 87 #[.string s] W fun e W' => e = .returned (excN s) ∧ Below W.heap.size W W' := by
 go_enter Tryz.func87, Tryz.ntmps87
 go_wp2
 exact bodyPost_ret (v := excN s) (by simp [results, Tryz.results87, go_sem]) rfl ⟨rfl, by exact belowA⟩
/-- A value among others, in a row that lies there. -/
theorem SeesV.three {a : Option Addr} {n c : Nat} {l : List V} (hs : SeesV W (.slice a n c) l) {k : Nat} {x : V} (hx : l[k]? = some x) : ∃ g o, a = some ⟨g, o, none⟩ ∧ ∀ i v, l[i]? = some v → W.cell? ⟨g, o + i * 3, none⟩ = some (.int .i64 v.kind) ∧ W.cell? ⟨g, o + i * 3 + 1, none⟩ = some (.int .i64 v.n) ∧ W.cell? ⟨g, o + i * 3 + 2, none⟩ = some (.string v.s) := by
 obtain ⟨_, _, e0, p1, p2, p3⟩ := hs
 cases e0
 rcases p3 with hh | hh
 ·
  subst hh; simp at hx
 ·
  exact hh
theorem sepThree {g o c : Nat} {l : List V} (S : Sep w Rs W) (j : Nat) (hj : Rs[j]? = some (valsR (.slice (some ⟨g, o, none⟩) l.length c) l)) {k : Nat} {x : V} (hx : l[k]? = some x) : W.cell? ⟨g, o + k * 3, none⟩ = some (.int .i64 x.kind) ∧ W.cell? ⟨g, o + k * 3 + 1, none⟩ = some (.int .i64 x.n) ∧ W.cell? ⟨g, o + k * 3 + 2, none⟩ = some (.string x.s) := by
 obtain ⟨g1, o1, e, hh⟩ := (S.row j hj).sees'.three hx
 cases e
 exact hh k x hx
attribute [local irreducible] wpSeqS wpAnyS wpPreS
theorem same_ok {N : Nat} (G : H.Good N) (hN : N ≤ 4000000) : ∀ (f : Nat) {Rs : List Res} {W : World} (S : Sep w Rs W) (i : Nat) (hi : Rs[i]? = some (heapR h H)) (x y : V) (d : Int) (hd : d + f = 30) (hd0 : 0 ≤ d),
  Calls Tryz.prog 122 #[.pointer (some ⟨h, 0, none⟩), .agg #[.int .i64 x.kind, .int .i64 x.n, .string x.s], .agg #[.int .i64 y.kind, .int .i64 y.n, .string y.s], .int .i64 d] W fun e W' => e = .returned (sameV (H.sameF f x y)) ∧ Sep w Rs W' := by
 intro f
 induction f using Nat.strongRecOn with | _ f IH
 intro Rs W S i hi x y d hd hd0
 obtain ⟨Z, hZ, hZ0, hZ1⟩ : ∃ Z, H.sameF f x y = H.sameT x y Z ∧ (f = 0 → Z = none) ∧ (∀ g, f = g + 1 → Z = if H.kind x = 3 then allM (fun k : V => match H.get y k with | none => some false | some z => H.sameF g ((H.get x k).getD V.zero) z) ((H.pairs x).map (·.1)) else allM (fun p : V × V => H.sameF g p.1 p.2) ((H.items x).zip (H.items y))) := by
  cases f with
  | zero => exact ⟨none, rfl, fun _ => rfl, fun g hg => by omega⟩
  | succ g => exact ⟨_, rfl, fun h0 => by omega, fun g' hg => by obtain rfl : g = g' := by omega
                                                                 rfl⟩
 obtain ⟨rr, hrr⟩ : ∃ r, r = H.sameF f x y := ⟨_, rfl⟩
 rw [← hrr]
 rw [hZ] at hrr
 obtain ⟨r1, hr1⟩ : ∃ r, H.oneB x y = r := ⟨_, rfl⟩
 obtain ⟨r2, hr2⟩ : ∃ r, H.wholeB x = r := ⟨_, rfl⟩
 obtain ⟨kx, hkx⟩ : ∃ k, H.kind x = k := ⟨_, rfl⟩
 obtain ⟨ky, hky⟩ : ∃ k, H.kind y = k := ⟨_, rfl⟩
 obtain ⟨nx, hnx⟩ : ∃ k, H.sizeB x = k := ⟨_, rfl⟩
 obtain ⟨ny, hny⟩ : ∃ k, H.sizeB y = k := ⟨_, rfl⟩
 obtain ⟨dxy, hdxy⟩ : ∃ k, decide (x = y) = k := ⟨_, rfl⟩
 have hrr1 : rr = if r1 = true then some true else if r2 = false ∨ kx ≠ ky then some ((decide (kx = 0) || decide (ky = 0)) && dxy) else if nx ≠ ny then some false else Z := by
  rw [hrr]; unfold HeapM.sameT; rw [hr1, hr2, hkx, hky, hnx, hny, hdxy]
 have HRR := Lib.hid hrr1
 have H1 := Lib.hid hr1
 have H2 := Lib.hid hr2
 have HKX := Lib.hid hkx
 have HKY := Lib.hid hky
 have HNX := Lib.hid hnx
 have HNY := Lib.hid hny
 have HD := Lib.hid hdxy
 have HZ0 := Lib.hid hZ0
 have HZ1 := Lib.hid hZ1
 have HD1 := Lib.hid (And.intro hd hd0)
 have HIH : Hid (∀ (g : Nat), g < f → ∀ {Rs : List Res} {W : World} (S : Sep w Rs W) (i : Nat) (hi : Rs[i]? = some (heapR h H)) (a c : V) (r : Option Bool) (hr : r = H.sameF g a c) (d : Int) (hd : d + g = 30) (hd0 : 0 ≤ d), Calls Tryz.prog 122 #[.pointer (some ⟨h, 0, none⟩), .agg #[.int .i64 a.kind, .int .i64 a.n, .string a.s], .agg #[.int .i64 c.kind, .int .i64 c.n, .string c.s], .int .i64 d] W fun e W' => e = .returned (sameV r) ∧ Sep w Rs W') := Lib.hid fun g hg {Rs W} S i hi a c r hr d hd hd0 => by
  subst hr; exact IH g hg S i hi a c d hd hd0
 clear hrr hrr1 hZ hZ0 hZ1 hr1 hr2 hkx hky hnx hny hdxy hd hd0 IH
 obtain ⟨b, hb⟩ : ∃ gx_, (W.heap.size) = gx_ := ⟨_, rfl⟩
 replace S := (((S.alloc (.cells #[.int .i64 x.kind, .int .i64 x.n, .string x.s] 24)).alloc (.cells #[.int .i64 y.kind, .int .i64 y.n, .string y.s] 24)).alloc (.cells #[.string ⟨#[]⟩, .int .i64 0, .int .i64 0, .string ⟨#[]⟩, .bool false] 33))
 simp only [World.size_alloc, hb] at S
 obtain ⟨bA, hbs⟩ : ∃ l, l = boxV (b + 1) y :: boxV b x :: Rs := ⟨_, rfl⟩
 have HBS := Lib.hid hbs
 replace S := enterP (w := w) (all := [boxE (b + 1 + 1), boxV (b + 1) y, boxV b x]) (E := [boxE (b + 1 + 1)]) (B := [boxV (b + 1) y, boxV b x]) (Rs := Rs) S hbs (perm_of [0, 1, 2] (by show (List.range' 0 3).Perm [0, 1, 2]; decide) (by rfl))
 have C1 := baseC3 (w := w) (b := b + 1) hbs 0 rfl
 have C0 := baseC3 (w := w) (b := b) hbs 1 rfl
 clear hbs
 replace S := Lib.hid S
 go_enter Tryz.func122, Tryz.ntmps122
 go_upto_region 1 with fail
 try simp only [World.size_alloc, hb]
 clear hb
 have KO : QuietC w bA 114 #[hpV h, agV x, agV y] (.bool r1) := Lib.hid fun W Q T => by
  rw [HBS.out] at T ⊢
  exact one_ok T (Q.length + 2 + i) (atI2 hi) x y r1 H1.out
 refine regionL (E := [boxE (b + 1 + 1)]) (base := bA) S.out ?_
 clear S
 refine qa ?_
 refine qc C0 ?_
 refine qc C1 ?_
 refine qk KO ?_
 refine qa ?_
 refine doneL (h := fun w1 S => ?_)
 replace S := Lib.hid S
 clear KO
 cases r1 with
 | true =>
  have hv : rr = some true := by have := HRR.out; rwa [if_pos rfl] at this
  subst hv
  go_upto_region 2 with fail
  refine regionL (E := [boxE (b + 1 + 1)]) (base := bA) S.out ?_
  clear S
  iterate 2 refine qa ?_
  refine qd undef [boxE (b + 1 + 1)] (h1 := fun Wx hSw => by (have hz := hSw.box (b := (b + 1 + 1)) (o := objE) 0 rfl; refine useZ5 hz fun z0 z1 z2 z3 z4 y0 y1 y2 y3 y4 => ?_; go_simp; exact ⟨rfl, hSw.set5 0 rfl (.string ⟨#[]⟩) (.int .i64 0) (.int .i64 0) (.string ⟨#[]⟩) (.bool false)⟩)) (h2 := ?_)
  refine doneL (h := fun w2 S => ?_)
  refine useR5 (S.box (b := b + 1 + 1) (o := objE) 0 rfl) fun r0 r1 r2 r3 r4 => ?_
  replace S := Lib.hid S
  repeat (first | go_values | go_skip | go_guarded | go_step)
  refine bodyPost_ret (v := .tuple #[.bool true, excZ]) ?_ ?_ ?_
  ·
   simp [results, Tryz.results122, go_sem, r0, r1, r2, r3, r4]
  ·
   rfl
  refine ⟨rfl, ?_⟩
  replace S := S.out
  rw [HBS.out] at S
  exact S.tail.tail.tail
 | false =>
  have KX : QuietC w bA 72 #[hpV h, agV x] (.int .i64 kx) := Lib.hid fun W Q T => by
   rw [HBS.out] at T ⊢
   exact kind_at T (Q.length + 2 + i) (atI2 hi) x kx HKX.out
  have KY : QuietC w bA 72 #[hpV h, agV y] (.int .i64 ky) := Lib.hid fun W Q T => by
   rw [HBS.out] at T ⊢
   exact kind_at T (Q.length + 2 + i) (atI2 hi) y ky HKY.out
  have KW : QuietC w bA 64 #[hpV h, agV x] (.bool r2) := Lib.hid fun W Q T => by
   rw [HBS.out] at T ⊢
   exact whole_ok T (Q.length + 2 + i) (atI2 hi) x r2 H2.out
  have KA : QuietC w bA 65 #[hpV h, agV x] (.int .i64 nx) := Lib.hid fun W Q T => by
   rw [HBS.out] at T ⊢
   exact sizeB_ok T (Q.length + 2 + i) (atI2 hi) x nx HNX.out
  have KB : QuietC w bA 65 #[hpV h, agV y] (.int .i64 ny) := Lib.hid fun W Q T => by
   rw [HBS.out] at T ⊢
   exact sizeB_ok T (Q.length + 2 + i) (atI2 hi) y ny HNY.out
  obtain ⟨c, hc⟩ : ∃ c, c = (!r2 || (kx != ky)) := ⟨_, rfl⟩
  have HC := Lib.hid hc
  clear hc
  go_upto_region 3 with fail
  go_cut [29] (fun s29 wx => s29 = .bool c ∧ Sep w ([boxE (b + 1 + 1)] ++ bA) wx)
  case first =>
   cases r2 with
   | false =>
    have e : c = true := by rw [HC.out]; rfl
    subst e
    refine regionP 14 0 (E := [boxE (b + 1 + 1)]) (base := bA) S.out ?_
    clear S
    refine qp ?_
    refine qpc C0 ?_
    refine qpk KW ?_
    iterate 2 refine qp ?_
    iterate 7 refine qpz ?_
    iterate 2 refine qp ?_
    refine endP ?_
    refine doneS (h := fun w3 S => ?_)
    replace S := Lib.hid S
    go_wp2_with fail
    go_meet
    exact ⟨rfl, S.out⟩
   | true =>
    have e : c = (kx != ky) := by rw [HC.out]; rfl
    subst e
    refine regionP 14 0 (E := [boxE (b + 1 + 1)]) (base := bA) S.out ?_
    clear S
    refine qp ?_
    refine qpc C0 ?_
    refine qpk KW ?_
    iterate 3 refine qp ?_
    refine qpc C0 ?_
    refine qpk KX ?_
    refine qp ?_
    refine qpc C1 ?_
    refine qpk KY ?_
    iterate 3 refine qp ?_
    refine endP ?_
    refine doneS (h := fun w4 S => ?_)
    replace S := Lib.hid S
    go_wp2_with fail
    go_meet
    exact ⟨rfl, S.out⟩
  case rest =>
   obtain ⟨rfl, S⟩ := hcut
   replace S := Lib.hid S
   clear KW
   cases c with
   | true =>
    obtain ⟨v8, hv8⟩ : ∃ v, v = ((decide (kx = 0) || decide (ky = 0)) && dxy) := ⟨_, rfl⟩
    have hv : rr = some v8 := by
     have e := HC.out
     have e1 := HRR.out
     rw [if_neg (by decide), if_pos (same_c1 e), ← hv8] at e1
     exact e1
    subst hv
    have HV8 := Lib.hid hv8
    clear hv8
    go_upto_region 4 with fail
    go_cut [8] (fun s8 wx => s8 = .bool v8 ∧ Sep w ([boxE (b + 1 + 1)] ++ bA) wx)
    case first =>
     by_cases hk : kx = 0
     ·
      have e : dxy = v8 := by rw [HV8.out]; simp [hk]
      subst e
      subst hk
      refine regionL (E := [boxE (b + 1 + 1)]) (base := bA) S.out ?_
      clear S
      refine qa ?_
      refine qc C0 ?_
      refine qk KX ?_
      iterate 2 refine qa ?_
      iterate 4 refine qz ?_
      iterate 2 refine qa ?_
      refine qc C0 ?_
      refine qc C1 ?_
      refine qa (v := .bool dxy) (hy := fun E Wx hSw => by (go_simp; rw [eqV_ifs Wx HD.out]; exact ⟨rfl, hSw⟩)) (h := ?_)
      iterate 3 refine qa ?_
      refine qd undef [boxE (b + 1 + 1)] (h1 := fun Wx hSw => by (have hz := hSw.box (b := (b + 1 + 1)) (o := objE) 0 rfl; refine useZ5 hz fun z0 z1 z2 z3 z4 y0 y1 y2 y3 y4 => ?_; go_simp; exact ⟨rfl, hSw.set5 0 rfl (.string ⟨#[]⟩) (.int .i64 0) (.int .i64 0) (.string ⟨#[]⟩) (.bool false)⟩)) (h2 := ?_)
      refine doneL (h := fun w5 S => ?_)
      replace S := Lib.hid S
      go_wp2_with fail
      go_meet
      exact ⟨rfl, S.out⟩
     ·
      by_cases hm : ky = 0
      ·
       have e : dxy = v8 := by rw [HV8.out]; simp [hm]
       subst e
       have hk0 : (kx == 0) = false := by simp [hk]
       subst hm
       refine regionL (E := [boxE (b + 1 + 1)]) (base := bA) S.out ?_
       clear S
       refine qa ?_
       refine qc C0 ?_
       refine qk KX ?_
       iterate 3 refine qa ?_
       refine qc C1 ?_
       refine qk KY ?_
       iterate 3 refine qa ?_
       refine qc C0 ?_
       refine qc C1 ?_
       refine qa (v := .bool dxy) (hy := fun E Wx hSw => by (go_simp; rw [eqV_ifs Wx HD.out]; exact ⟨rfl, hSw⟩)) (h := ?_)
       iterate 3 refine qa ?_
       refine qd undef [boxE (b + 1 + 1)] (h1 := fun Wx hSw => by (have hz := hSw.box (b := (b + 1 + 1)) (o := objE) 0 rfl; refine useZ5 hz fun z0 z1 z2 z3 z4 y0 y1 y2 y3 y4 => ?_; go_simp; exact ⟨rfl, hSw.set5 0 rfl (.string ⟨#[]⟩) (.int .i64 0) (.int .i64 0) (.string ⟨#[]⟩) (.bool false)⟩)) (h2 := ?_)
       refine doneL (h := fun w6 S => ?_)
       replace S := Lib.hid S
       go_wp2_with fail
       go_meet
       exact ⟨rfl, S.out⟩
      ·
       ·
        have e : v8 = false := by rw [HV8.out]; simp [hk, hm]
        subst e
        have hk0 : (kx == 0) = false := by simp [hk]
        have hm0 : (ky == 0) = false := by simp [hm]
        refine regionL (E := [boxE (b + 1 + 1)]) (base := bA) S.out ?_
        clear S
        refine qa ?_
        refine qc C0 ?_
        refine qk KX ?_
        iterate 3 refine qa ?_
        refine qc C1 ?_
        refine qk KY ?_
        iterate 3 refine qa ?_
        iterate 3 refine qz ?_
        iterate 3 refine qa ?_
        refine qd undef [boxE (b + 1 + 1)] (h1 := fun Wx hSw => by (have hz := hSw.box (b := (b + 1 + 1)) (o := objE) 0 rfl; refine useZ5 hz fun z0 z1 z2 z3 z4 y0 y1 y2 y3 y4 => ?_; go_simp; exact ⟨rfl, hSw.set5 0 rfl (.string ⟨#[]⟩) (.int .i64 0) (.int .i64 0) (.string ⟨#[]⟩) (.bool false)⟩)) (h2 := ?_)
        refine doneL (h := fun w7 S => ?_)
        replace S := Lib.hid S
        go_wp2_with fail
        go_meet
        exact ⟨rfl, S.out⟩
    case rest =>
     obtain ⟨rfl, S⟩ := hcut
     refine useR5 (S.box (b := b + 1 + 1) (o := objE) 0 rfl) fun r0 r1 r2 r3 r4 => ?_
     replace S := Lib.hid S
     repeat (first | go_values | go_skip | go_guarded | go_step)
     refine bodyPost_ret (v := .tuple #[.bool v8, excZ]) ?_ ?_ ?_
     ·
      simp [results, Tryz.results122, go_sem, r0, r1, r2, r3, r4]
     ·
      rfl
     refine ⟨rfl, ?_⟩
     replace S := S.out
     rw [HBS.out] at S
     exact S.tail.tail.tail
   | false =>
    have hk : r2 = true ∧ ky = kx := same_c0 HC.out
    obtain ⟨rfl, rfl⟩ := hk
    have HR2 : Hid (rr = if nx ≠ ny then some false else Z) := Lib.hid (by have e1 := HRR.out; rwa [if_neg (by decide), if_neg (by simp)] at e1)
    clear HRR HC HD
    go_upto_region 5 with fail
    refine regionP 8 0 (E := [boxE (b + 1 + 1)]) (base := bA) S.out ?_
    clear S
    refine qp ?_
    refine qpc C0 ?_
    refine qpk KA ?_
    refine qp ?_
    refine qpc C1 ?_
    refine qpk KB ?_
    iterate 2 refine qp ?_
    refine endP ?_
    refine doneS (h := fun w8 S => ?_)
    replace S := Lib.hid S
    by_cases hnn : nx = ny
    ·
     subst hnn
     have HR3 : Hid (rr = Z) := Lib.hid (by have e1 := HR2.out; rwa [if_neg (by simp)] at e1)
     clear HR2 KA KB
     go_upto_region 7 with fail
     refine regionL (E := [boxE (b + 1 + 1)]) (base := bA) S.out ?_
     clear S
     iterate 3 refine qa ?_
     refine doneL (h := fun w9 S => ?_)
     replace S := Lib.hid S
     cases f with
     | zero =>
      obtain rfl : d = 30 := by have := HD1.out; omega
      have hv : rr = none := by rw [HR3.out]; exact HZ0.out rfl
      subst hv
      have KR : QuietC w bA 87 #[.string recursionError] (excN recursionError) := Lib.hid fun W Q T => by
       exact (raise_ok W _).mono fun e W' ⟨e1, e2⟩ => ⟨e1, T.later e2⟩
      go_upto_region 8 with fail
      refine regionL (E := [boxE (b + 1 + 1)]) (base := bA) S.out ?_
      clear S
      refine qk KR ?_
      refine qa ?_
      refine qd undef [boxN (b + 1 + 1) recursionError] (h1 := fun Wx hSw => by (have hz := hSw.box (b := (b + 1 + 1)) (o := objE) 0 rfl; refine useZ5 hz fun z0 z1 z2 z3 z4 y0 y1 y2 y3 y4 => ?_; go_simp; exact ⟨rfl, hSw.set5 0 rfl (.string recursionError) (.int .i64 0) (.int .i64 0) (.string ⟨#[]⟩) (.bool false)⟩)) (h2 := ?_)
      refine doneL (h := fun w10 S => ?_)
      refine useR5 (S.box (b := b + 1 + 1) (o := objN recursionError) 0 rfl) fun r0 r1 r2 r3 r4 => ?_
      replace S := Lib.hid S
      repeat (first | go_values | go_skip | go_guarded | go_step)
      refine bodyPost_ret (v := .tuple #[.bool false, excN recursionError]) ?_ ?_ ?_
      ·
       simp [results, Tryz.results122, go_sem, r0, r1, r2, r3, r4]
      ·
       rfl
      refine ⟨rfl, ?_⟩
      replace S := S.out
      rw [HBS.out] at S
      exact S.tail.tail.tail
     | succ g =>
      have hd1 : d < 30 := by have := HD1.out; omega
      have hwr : IntKind.i64.wrap (d + 1) = d + 1 := IntWalk.i64_in _ (by have := HD1.out; omega)
      have HI : Hid (∀ {Rs : List Res} {W : World} (S : Sep w Rs W) (i : Nat) (hi : Rs[i]? = some (heapR h H)) (a c : V) (r : Option Bool) (hr : r = H.sameF g a c), Calls Tryz.prog 122 #[.pointer (some ⟨h, 0, none⟩), .agg #[.int .i64 a.kind, .int .i64 a.n, .string a.s], .agg #[.int .i64 c.kind, .int .i64 c.n, .string c.s], .int .i64 (d + 1)] W fun e W' => e = .returned (sameV r) ∧ Sep w Rs W') := Lib.hid fun S i hi a c r hr => HIH.out g (by omega) S i hi a c r hr (d + 1) (by have := HD1.out; omega) (by have := HD1.out; omega)
      have HZ := Lib.hid (HZ1.out g rfl)
      clear HIH HZ0 HZ1
      go_upto_region 9 with fail
      refine regionL (E := [boxE (b + 1 + 1)]) (base := bA) S.out ?_
      clear S
      refine qa ?_
      refine qc C0 ?_
      refine qk KX ?_
      refine qa ?_
      refine doneL (h := fun w11 S => ?_)
      replace S := Lib.hid S
      clear KX KY
      by_cases hk3 : ky = 3
      ·
       have hk3b : (ky == 3) = true := by simp [hk3]
       have HZ3 : Hid (rr = allM (fun k : V => match H.get y k with | none => some false | some z => H.sameF g ((H.get x k).getD V.zero) z) ((H.pairs x).map (·.1))) := Lib.hid (by rw [HR3.out, HZ.out, if_pos (by rw [HKX.out]; exact hk3)])
       obtain ⟨KS, hKS⟩ : ∃ KS, (H.pairs x).map (·.1) = KS := ⟨_, rfl⟩
       obtain ⟨p, hp⟩ : ∃ p : V → Option Bool, p = fun k : V => match H.get y k with | none => some false | some z => H.sameF g ((H.get x k).getD V.zero) z := ⟨_, rfl⟩
       have PK : Hid (rr = allM p KS) := Lib.hid (by rw [HZ3.out, hKS, hp])
       have P0 : Hid (∀ k, (H.get y k).isSome = false → p k = some false) := Lib.hid fun k hh => by
        cases e : H.get y k with
        | none => rw [hp]; simp only [e]
        | some z => rw [e] at hh; cases hh
       have P1 : Hid (∀ k, (H.get y k).isSome = true → p k = H.sameF g ((H.get x k).getD V.zero) ((H.get y k).getD V.zero)) := Lib.hid fun k hh => by
        cases e : H.get y k with
        | none => rw [e] at hh; cases hh
        | some z => rw [hp]; simp only [e, Option.getD_some]
       have HKS := Lib.hid hKS
       clear hp hKS HZ3 HR3 HZ hk3
       have KI : Hid (∀ W (Q : List Res), Sep w (Q ++ bA) W → Calls Tryz.prog 79 #[.pointer (some ⟨h, 0, none⟩), .agg #[.int .i64 x.kind, .int .i64 x.n, .string x.s]] W fun e W' => ∃ a c, e = .returned (.slice a KS.length c) ∧ Sep w (valsR (.slice a KS.length c) KS :: (Q ++ bA)) W') := Lib.hid fun W Q T => by
        rw [HBS.out] at T ⊢
        exact keys_at T (Q.length + 2 + i) (atI2 hi) x KS HKS.out
       go_upto_region 10 with fail
       refine regionL (E := [emptyR, boxE (b + 1 + 1)]) (base := bA) (Sep.putE S.out) ?_
       clear S
       refine qa ?_
       refine qc C0 ?_
       refine stepL (fun v E1 => ∃ (a_12_1 : Option Addr) (c_12_1 : Nat), v = .slice a_12_1 KS.length c_12_1 ∧ E1 = [valsR (.slice a_12_1 KS.length c_12_1) KS, boxE (b + 1 + 1)]) (h1 := fun Wx hSw => by (go_simp; refine symCallN ?_; exact (KI.out _ _ hSw).mono fun e W' ⟨a, c, e1, e2⟩ => ⟨_, _, e1, ⟨a, c, rfl, rfl⟩, e2.into 0 rfl⟩)) (h2 := fun v E1 hvE => ?_)
       obtain ⟨a_12_1, c_12_1, rfl, rfl⟩ := hvE; simp only [Act.put, pa]; try dsimp only [List.set]
       iterate 2 refine qa ?_
       refine doneL (h := fun w12 S => ?_)
       replace S := Lib.hid S
       clear KI
       have hkl : (KS.length : Int) ≤ 9223372036854775807 := by obtain ⟨_, _, e0, p1, p2, _⟩ := (S.out.row 0 rfl).sees'; cases e0; unfold maxLen at p2; omega
       obtain ⟨bK, hnb⟩ : ∃ l, l = [valsR (.slice a_12_1 KS.length c_12_1) KS] ++ bA := ⟨_, rfl⟩
       have HBbK := Lib.hid hnb
       replace S : Sep w ([boxE (b + 1 + 1)] ++ bK) w12 := by
        rw [hnb]
        refine S.out.perm ?_
        exact (show ([valsR (.slice a_12_1 KS.length c_12_1) KS, boxE (b + 1 + 1)] ++ bA).Perm ([boxE (b + 1 + 1)] ++ ([valsR (.slice a_12_1 KS.length c_12_1) KS] ++ bA)) from by rw [← List.append_assoc]; exact List.Perm.append_right bA (by exact perm_of [1, 0] (by show (List.range' 0 2).Perm [1, 0]; decide) (by rfl)))
       clear hnb
       replace S := Lib.hid S
       have C1_bK := liftC HBbK C1
       have C0_bK := liftC HBbK C0
       go_wp2
       go_loopw [80] (fun s80 wr => ∃ k : Nat, k ≤ KS.length ∧ s80 = .int .i64 k ∧ Hid (∀ q ∈ KS.take k, p q = some true) ∧ Sep w ([boxE (b + 1 + 1)] ++ bK) wr) (fun s80 _ => KS.length - (intOf s80).toNat)
       case atStart => exact ⟨0, Nat.zero_le _, rfl, Lib.hid (by simp), S.out⟩
       case round =>
        obtain ⟨k, hk, rfl, HA, S⟩ := hrel
        replace S := Lib.hid S
        by_cases hlt : k < KS.length
        ·
         have hlti : (k : Int) < KS.length := by omega
         obtain ⟨key, hkey⟩ : ∃ z, KS[k]? = some z := ⟨KS[k], by simp [hlt]⟩
         have T := S.out
         rw [HBbK.out] at T
         obtain ⟨g1, og, hag, -⟩ := (T.row 1 rfl).sees'.three hkey
         clear T
         subst hag
         obtain ⟨xv, hxv⟩ : ∃ v, (H.get x key).getD V.zero = v := ⟨_, rfl⟩
         obtain ⟨xr, hxr⟩ : ∃ v, (H.get x key).isSome = v := ⟨_, rfl⟩
         obtain ⟨yv, hyv⟩ : ∃ v, (H.get y key).getD V.zero = v := ⟨_, rfl⟩
         obtain ⟨yr, hyr⟩ : ∃ v, (H.get y key).isSome = v := ⟨_, rfl⟩
         obtain ⟨q, hq⟩ : ∃ q, q = H.sameF g xv yv := ⟨_, rfl⟩
         have HKEY := Lib.hid hkey
         have HLT := Lib.hid hlt
         have HXV := Lib.hid hxv
         have HXR := Lib.hid hxr
         have HYV := Lib.hid hyv
         have HYR := Lib.hid hyr
         have HQ := Lib.hid hq
         clear hkey hlt hxv hxr hyv hyr hq hk
         have CR : Hid (∀ W (Q : List Res), Sep w (Q ++ bK) W → W.cell? ⟨g1, og + k * 3, none⟩ = some (.int .i64 key.kind) ∧ W.cell? ⟨g1, og + k * 3 + 1, none⟩ = some (.int .i64 key.n) ∧ W.cell? ⟨g1, og + k * 3 + 2, none⟩ = some (.string key.s)) := Lib.hid fun W Q T => by
          rw [HBbK.out] at T
          exact sepThree T (Q.length + 0) (atR rfl) HKEY.out
         go_upto_region 12 with fail
         refine regionL (E := [emptyR, boxE (b + 1 + 1)]) (base := bK) (Sep.putE S.out) ?_
         clear S
         refine qa ?_
         refine qc CR ?_
         refine allocL 0 rfl (fun q => .pointer (some ⟨q, 0, none⟩)) (.cells #[.int .i64 0, .int .i64 0, .string ⟨#[]⟩] 24) (h1 := fun Wx => by go_simp) (h2 := fun qz111 => ?_); simp only [Act.put, pa]; try dsimp only [List.set]
         try simp only [List.set_cons_zero, List.set_cons_succ]
         refine qd undef [boxV qz111 key, boxE (b + 1 + 1)] (h1 := fun Wx hSw => by (have hz := hSw.box (b := qz111) (o := objZ) 0 rfl; refine useZ3 hz fun z0 z1 z2 y0 y1 y2 => ?_; go_simp; exact ⟨rfl, hSw.set3 0 rfl (.int .i64 key.kind) (.int .i64 key.n) (.string key.s)⟩)) (h2 := ?_)
         refine doneL (h := fun w13 S => ?_)
         replace S := Lib.hid S
         obtain ⟨bz, hnb⟩ : ∃ l, l = [boxV qz111 key] ++ bK := ⟨_, rfl⟩
         have HBbz := Lib.hid hnb
         replace S : Sep w ([boxE (b + 1 + 1)] ++ bz) w13 := by
          rw [hnb]
          refine S.out.perm ?_
          exact (show ([boxV qz111 key, boxE (b + 1 + 1)] ++ bK).Perm ([boxE (b + 1 + 1)] ++ ([boxV qz111 key] ++ bK)) from by rw [← List.append_assoc]; exact List.Perm.append_right bK (by exact perm_of [1, 0] (by show (List.range' 0 2).Perm [1, 0]; decide) (by rfl)))
         clear hnb
         replace S := Lib.hid S
         have C1_bz := liftC HBbz C1_bK
         have C0_bz := liftC HBbz C0_bK
         have CR_bz := liftC HBbz CR
         have Cz11_bz := baseC3 (w := w) (b := qz111) HBbz.out 0 rfl
         have KG : QuietC w bA 80 #[hpV h, agV x, agV key] (.tuple #[.agg #[.int .i64 xv.kind, .int .i64 xv.n, .string xv.s], .bool xr]) := Lib.hid fun W Q T => by
          rw [HBS.out] at T ⊢
          exact get_at T (Q.length + 2 + i) (atI2 hi) x key xv xr HXV.out HXR.out
         replace KG := (liftK HBbz (liftK HBbK KG))
         go_upto_region 13 with fail
         refine regionL (E := [emptyR, boxE (b + 1 + 1)]) (base := bz) (Sep.putE S.out) ?_
         clear S
         refine qa ?_
         refine qc C0_bz ?_
         refine qc Cz11_bz ?_
         refine qk KG ?_
         iterate 3 refine qa ?_
         refine allocL 0 rfl (fun q => .pointer (some ⟨q, 0, none⟩)) (.cells #[.int .i64 0, .int .i64 0, .string ⟨#[]⟩] 24) (h1 := fun Wx => by go_simp) (h2 := fun qz121 => ?_); simp only [Act.put, pa]; try dsimp only [List.set]
         try simp only [List.set_cons_zero, List.set_cons_succ]
         refine qd undef [boxV qz121 xv, boxE (b + 1 + 1)] (h1 := fun Wx hSw => by (have hz := hSw.box (b := qz121) (o := objZ) 0 rfl; refine useZ3 hz fun z0 z1 z2 y0 y1 y2 => ?_; go_simp; exact ⟨rfl, hSw.set3 0 rfl (.int .i64 xv.kind) (.int .i64 xv.n) (.string xv.s)⟩)) (h2 := ?_)
         refine qa ?_
         refine doneL (h := fun w14 S => ?_)
         replace S := Lib.hid S
         have KH : QuietC w bA 80 #[hpV h, agV y, agV key] (.tuple #[.agg #[.int .i64 yv.kind, .int .i64 yv.n, .string yv.s], .bool yr]) := Lib.hid fun W Q T => by
          rw [HBS.out] at T ⊢
          exact get_at T (Q.length + 2 + i) (atI2 hi) y key yv yr HYV.out HYR.out
         replace KH := (liftK HBbz (liftK HBbK KH))
         go_upto_region 14 with fail
         refine regionL (E := [emptyR, boxV qz121 xv, boxE (b + 1 + 1)]) (base := bz) (Sep.putE S.out) ?_
         clear S
         refine qa ?_
         refine qc C1_bz ?_
         refine qc Cz11_bz ?_
         refine qk KH ?_
         iterate 3 refine qa ?_
         refine allocL 0 rfl (fun q => .pointer (some ⟨q, 0, none⟩)) (.cells #[.int .i64 0, .int .i64 0, .string ⟨#[]⟩] 24) (h1 := fun Wx => by go_simp) (h2 := fun qz141 => ?_); simp only [Act.put, pa]; try dsimp only [List.set]
         try simp only [List.set_cons_zero, List.set_cons_succ]
         refine qd undef [boxV qz141 yv, boxV qz121 xv, boxE (b + 1 + 1)] (h1 := fun Wx hSw => by (have hz := hSw.box (b := qz141) (o := objZ) 0 rfl; refine useZ3 hz fun z0 z1 z2 y0 y1 y2 => ?_; go_simp; exact ⟨rfl, hSw.set3 0 rfl (.int .i64 yv.kind) (.int .i64 yv.n) (.string yv.s)⟩)) (h2 := ?_)
         refine qa ?_
         refine doneL (h := fun w15 S => ?_)
         replace S := Lib.hid S
         clear KG KH
         go_upto_region 15 with fail
         refine regionL (E := [boxV qz141 yv, boxV qz121 xv, boxE (b + 1 + 1)]) (base := bz) S.out ?_
         clear S
         iterate 2 refine qa ?_
         refine doneL (h := fun w16 S => ?_)
         replace S := Lib.hid S
         cases yr with
         | false =>
          have hv : rr = some false := by have e := P0.out key HYR.out; rw [PK.out, allM_stop HKEY.out HA.out (by rw [e]; simp), e]
          subst hv
          go_upto_region 16 with fail
          refine regionL (E := [boxV qz141 yv, boxV qz121 xv, boxE (b + 1 + 1)]) (base := bz) S.out ?_
          clear S
          iterate 2 refine qa ?_
          refine qd undef [boxV qz141 yv, boxV qz121 xv, boxE (b + 1 + 1)] (h1 := fun Wx hSw => by (have hz := hSw.box (b := (b + 1 + 1)) (o := objE) 2 rfl; refine useZ5 hz fun z0 z1 z2 z3 z4 y0 y1 y2 y3 y4 => ?_; go_simp; exact ⟨rfl, hSw.set5 2 rfl (.string ⟨#[]⟩) (.int .i64 0) (.int .i64 0) (.string ⟨#[]⟩) (.bool false)⟩)) (h2 := ?_)
          refine doneL (h := fun w17 S => ?_)
          refine useR5 (S.box (b := b + 1 + 1) (o := objE) 2 rfl) fun r0 r1 r2 r3 r4 => ?_
          replace S := Lib.hid S
          repeat (first | go_values | go_skip | go_guarded | go_step)
          refine bodyPost_ret (v := .tuple #[.bool false, excZ]) ?_ ?_ ?_
          ·
           simp [results, Tryz.results122, go_sem, r0, r1, r2, r3, r4]
          ·
           rfl
          refine ⟨rfl, ?_⟩
          replace S := S.out
          rw [HBbz.out] at S
          rw [HBbK.out] at S
          rw [HBS.out] at S
          exact S.tail.tail.tail.tail.tail.tail.tail
         | true =>
          have HP1 : Hid (p key = H.sameF g xv yv) := Lib.hid (by rw [P1.out key HYR.out, HXV.out, HYV.out])
          obtain ⟨by_, hnb⟩ : ∃ l, l = [boxV qz121 xv, boxV qz141 yv] ++ bz := ⟨_, rfl⟩
          have HBby_ := Lib.hid hnb
          replace S : Sep w ([boxE (b + 1 + 1)] ++ by_) w16 := by
           rw [hnb]
           refine S.out.perm ?_
           exact (show ([boxV qz141 yv, boxV qz121 xv, boxE (b + 1 + 1)] ++ bz).Perm ([boxE (b + 1 + 1)] ++ ([boxV qz121 xv, boxV qz141 yv] ++ bz)) from by rw [← List.append_assoc]; exact List.Perm.append_right bz (by exact perm_of [2, 1, 0] (by show (List.range' 0 3).Perm [2, 1, 0]; decide) (by rfl)))
          clear hnb
          replace S := Lib.hid S
          have C1_by_ := liftC HBby_ C1_bz
          have C0_by_ := liftC HBby_ C0_bz
          have CR_by_ := liftC HBby_ CR_bz
          have Cz11_by_ := liftC HBby_ Cz11_bz
          have Cz12_by_ := baseC3 (w := w) (b := qz121) HBby_.out 0 rfl
          have Cz14_by_ := baseC3 (w := w) (b := qz141) HBby_.out 1 rfl
          match q, HQ with
          | some true, HQ =>
           have KS_ : QuietC w bA 122 #[hpV h, agV xv, agV yv, .int .i64 (d + 1)] (.tuple #[.bool true, excZ]) := Lib.hid fun W Q T => by
            rw [HBS.out] at T ⊢
            exact HI.out T (Q.length + 2 + i) (atI2 hi) xv yv (some true) HQ.out
           replace KS_ := (liftK HBby_ (liftK HBbz (liftK HBbK KS_)))
           go_upto_region 17 with fail
           refine regionL (E := [emptyR, boxE (b + 1 + 1)]) (base := by_) (Sep.putE S.out) ?_
           clear S
           refine qa ?_
           refine qc Cz12_by_ ?_
           refine qc Cz14_by_ ?_
           iterate 2 refine qa ?_
           refine qk KS_ ?_
           iterate 3 refine qa ?_
           refine allocL 0 rfl (fun q => .pointer (some ⟨q, 0, none⟩)) (.cells #[.string ⟨#[]⟩, .int .i64 0, .int .i64 0, .string ⟨#[]⟩, .bool false] 33) (h1 := fun Wx => by go_simp) (h2 := fun qe171 => ?_); simp only [Act.put, pa]; try dsimp only [List.set]
           try simp only [List.set_cons_zero, List.set_cons_succ]
           refine qa ?_
           refine qd undef [boxE qe171, boxE (b + 1 + 1)] (h1 := fun Wx hSw => by (have hz := hSw.box (b := qe171) (o := objE) 0 rfl; refine useZ5 hz fun z0 z1 z2 z3 z4 y0 y1 y2 y3 y4 => ?_; go_simp; exact ⟨rfl, hSw.set5 0 rfl (.string ⟨#[]⟩) (.int .i64 0) (.int .i64 0) (.string ⟨#[]⟩) (.bool false)⟩)) (h2 := ?_)
           refine doneL (h := fun w18 S => ?_)
           replace S := Lib.hid S
           go_upto_region 18 with fail
           refine regionL (E := [boxE qe171, boxE (b + 1 + 1)]) (base := by_) S.out ?_
           clear S
           iterate 2 refine qa ?_
           refine doneL (h := fun w19 S => ?_)
           replace S := Lib.hid S
           have hi1 : IntKind.i64.wrap ((k : Int) + 1) = (k : Int) + 1 := IntWalk.i64_in _ (by omega)
           replace S := S.out
           rw [HBby_.out] at S
           rw [HBbz.out] at S
           replace S := Lib.hid (S.sub (Qs := [boxE (b + 1 + 1)] ++ bK) (List.Sublist.cons _ (List.Sublist.cons_cons _ (List.Sublist.cons _ (List.Sublist.cons _ (List.Sublist.cons _ (List.Sublist.refl _)))))))
           go_wp2
           exact ⟨⟨k + 1, HLT.out, by go_num, Lib.hid (take_snoc HKEY.out HA.out (by rw [HP1.out]; exact HQ.out.symm)), S.out⟩, by have := HLT.out; simp [intOf]; omega⟩
          | some false, HQ =>
           have KS_ : QuietC w bA 122 #[hpV h, agV xv, agV yv, .int .i64 (d + 1)] (.tuple #[.bool false, excZ]) := Lib.hid fun W Q T => by
            rw [HBS.out] at T ⊢
            exact HI.out T (Q.length + 2 + i) (atI2 hi) xv yv (some false) HQ.out
           replace KS_ := (liftK HBby_ (liftK HBbz (liftK HBbK KS_)))
           go_upto_region 17 with fail
           refine regionL (E := [emptyR, boxE (b + 1 + 1)]) (base := by_) (Sep.putE S.out) ?_
           clear S
           refine qa ?_
           refine qc Cz12_by_ ?_
           refine qc Cz14_by_ ?_
           iterate 2 refine qa ?_
           refine qk KS_ ?_
           iterate 3 refine qa ?_
           refine allocL 0 rfl (fun q => .pointer (some ⟨q, 0, none⟩)) (.cells #[.string ⟨#[]⟩, .int .i64 0, .int .i64 0, .string ⟨#[]⟩, .bool false] 33) (h1 := fun Wx => by go_simp) (h2 := fun qe171 => ?_); simp only [Act.put, pa]; try dsimp only [List.set]
           try simp only [List.set_cons_zero, List.set_cons_succ]
           refine qa ?_
           refine qd undef [boxE qe171, boxE (b + 1 + 1)] (h1 := fun Wx hSw => by (have hz := hSw.box (b := qe171) (o := objE) 0 rfl; refine useZ5 hz fun z0 z1 z2 z3 z4 y0 y1 y2 y3 y4 => ?_; go_simp; exact ⟨rfl, hSw.set5 0 rfl (.string ⟨#[]⟩) (.int .i64 0) (.int .i64 0) (.string ⟨#[]⟩) (.bool false)⟩)) (h2 := ?_)
           refine doneL (h := fun w20 S => ?_)
           replace S := Lib.hid S
           go_upto_region 18 with fail
           refine regionL (E := [boxE qe171, boxE (b + 1 + 1)]) (base := by_) S.out ?_
           clear S
           iterate 2 refine qa ?_
           refine doneL (h := fun w21 S => ?_)
           replace S := Lib.hid S
           have hv : rr = some false := by rw [PK.out, allM_stop HKEY.out HA.out (by rw [HP1.out, ← HQ.out]; simp), HP1.out, ← HQ.out]
           subst hv
           go_upto_region 19 with fail
           refine regionS (E := [boxE qe171, boxE (b + 1 + 1)]) (base := by_) S.out ?_
           clear S
           refine qs 1 ?_
           refine readyS [0] ?_
           refine detS _ [boxE qe171, boxE (b + 1 + 1)] (h1 := fun Wx hSw => by (have hz := hSw.box (b := qe171) (o := objE) 0 rfl; have z0 := cellAt hz 0 (v := .string ⟨#[]⟩) rfl; have z1 := cellAt hz 1 (v := .int .i64 0) rfl; have z2 := cellAt hz 2 (v := .int .i64 0) rfl; have z3 := cellAt hz 3 (v := .string ⟨#[]⟩) rfl; have z4 := cellAt hz 4 (v := .bool false) rfl; go_simp; exact ⟨rfl, hSw⟩)) (h2 := ?_) (hs := nilS); simp only [Act.put, pa]; try dsimp only [List.set]
           refine readyS [2] ?_
           refine detS undef [boxE qe171, boxE (b + 1 + 1)] (h1 := fun Wx hSw => by (have hz := hSw.box (b := (b + 1 + 1)) (o := objE) 1 rfl; refine useZ5 hz fun z0 z1 z2 z3 z4 y0 y1 y2 y3 y4 => ?_; go_simp; exact ⟨rfl, hSw.set5 1 rfl (.string ⟨#[]⟩) (.int .i64 0) (.int .i64 0) (.string ⟨#[]⟩) (.bool false)⟩)) (h2 := ?_) (hs := nilS); simp only [Act.put, pa]; try dsimp only [List.set]
           refine doneS (h := fun w22 S => ?_)
           refine useR5 (S.box (b := b + 1 + 1) (o := objE) 1 rfl) fun r0 r1 r2 r3 r4 => ?_
           replace S := Lib.hid S
           repeat (first | go_values | go_skip | go_guarded | go_step)
           refine bodyPost_ret (v := .tuple #[.bool false, excZ]) ?_ ?_ ?_
           ·
            simp [results, Tryz.results122, go_sem, r0, r1, r2, r3, r4]
           ·
            rfl
           refine ⟨rfl, ?_⟩
           replace S := S.out
           rw [HBby_.out] at S
           rw [HBbz.out] at S
           rw [HBbK.out] at S
           rw [HBS.out] at S
           exact S.tail.tail.tail.tail.tail.tail.tail.tail
          | none, HQ =>
           have KS_ : QuietC w bA 122 #[hpV h, agV xv, agV yv, .int .i64 (d + 1)] (.tuple #[.bool false, excN recursionError]) := Lib.hid fun W Q T => by
            rw [HBS.out] at T ⊢
            exact HI.out T (Q.length + 2 + i) (atI2 hi) xv yv (none) HQ.out
           replace KS_ := (liftK HBby_ (liftK HBbz (liftK HBbK KS_)))
           go_upto_region 17 with fail
           refine regionL (E := [emptyR, boxE (b + 1 + 1)]) (base := by_) (Sep.putE S.out) ?_
           clear S
           refine qa ?_
           refine qc Cz12_by_ ?_
           refine qc Cz14_by_ ?_
           iterate 2 refine qa ?_
           refine qk KS_ ?_
           iterate 3 refine qa ?_
           refine allocL 0 rfl (fun q => .pointer (some ⟨q, 0, none⟩)) (.cells #[.string ⟨#[]⟩, .int .i64 0, .int .i64 0, .string ⟨#[]⟩, .bool false] 33) (h1 := fun Wx => by go_simp) (h2 := fun qe171 => ?_); simp only [Act.put, pa]; try dsimp only [List.set]
           try simp only [List.set_cons_zero, List.set_cons_succ]
           refine qa ?_
           refine qd undef [boxN qe171 recursionError, boxE (b + 1 + 1)] (h1 := fun Wx hSw => by (have hz := hSw.box (b := qe171) (o := objE) 0 rfl; refine useZ5 hz fun z0 z1 z2 z3 z4 y0 y1 y2 y3 y4 => ?_; go_simp; exact ⟨rfl, hSw.set5 0 rfl (.string recursionError) (.int .i64 0) (.int .i64 0) (.string ⟨#[]⟩) (.bool false)⟩)) (h2 := ?_)
           refine doneL (h := fun w23 S => ?_)
           replace S := Lib.hid S
           go_upto_region 18 with fail
           refine regionL (E := [boxN qe171 recursionError, boxE (b + 1 + 1)]) (base := by_) S.out ?_
           clear S
           iterate 2 refine qa ?_
           refine doneL (h := fun w24 S => ?_)
           replace S := Lib.hid S
           have hv : rr = none := by rw [PK.out, allM_stop HKEY.out HA.out (by rw [HP1.out, ← HQ.out]; simp), HP1.out, ← HQ.out]
           subst hv
           go_upto_region 19 with fail
           refine regionS (E := [boxN qe171 recursionError, boxE (b + 1 + 1)]) (base := by_) S.out ?_
           clear S
           refine qs 1 ?_
           refine readyS [0] ?_
           refine detS _ [boxN qe171 recursionError, boxE (b + 1 + 1)] (h1 := fun Wx hSw => by (have hz := hSw.box (b := qe171) (o := objN recursionError) 0 rfl; have z0 := cellAt hz 0 (v := .string recursionError) rfl; have z1 := cellAt hz 1 (v := .int .i64 0) rfl; have z2 := cellAt hz 2 (v := .int .i64 0) rfl; have z3 := cellAt hz 3 (v := .string ⟨#[]⟩) rfl; have z4 := cellAt hz 4 (v := .bool false) rfl; go_simp; exact ⟨rfl, hSw⟩)) (h2 := ?_) (hs := nilS); simp only [Act.put, pa]; try dsimp only [List.set]
           refine readyS [2] ?_
           refine detS undef [boxN qe171 recursionError, boxN (b + 1 + 1) recursionError] (h1 := fun Wx hSw => by (have hz := hSw.box (b := (b + 1 + 1)) (o := objE) 1 rfl; refine useZ5 hz fun z0 z1 z2 z3 z4 y0 y1 y2 y3 y4 => ?_; go_simp; exact ⟨rfl, hSw.set5 1 rfl (.string recursionError) (.int .i64 0) (.int .i64 0) (.string ⟨#[]⟩) (.bool false)⟩)) (h2 := ?_) (hs := nilS); simp only [Act.put, pa]; try dsimp only [List.set]
           refine doneS (h := fun w25 S => ?_)
           refine useR5 (S.box (b := b + 1 + 1) (o := objN recursionError) 1 rfl) fun r0 r1 r2 r3 r4 => ?_
           replace S := Lib.hid S
           repeat (first | go_values | go_skip | go_guarded | go_step)
           refine bodyPost_ret (v := .tuple #[.bool false, excN recursionError]) ?_ ?_ ?_
           ·
            simp [results, Tryz.results122, go_sem, r0, r1, r2, r3, r4]
           ·
            rfl
           refine ⟨rfl, ?_⟩
           replace S := S.out
           rw [HBby_.out] at S
           rw [HBbz.out] at S
           rw [HBbK.out] at S
           rw [HBS.out] at S
           exact S.tail.tail.tail.tail.tail.tail.tail.tail
        ·
         obtain rfl : k = KS.length := by omega
         have hno : ¬ ((KS.length : Int) < KS.length) := by omega
         have hv : rr = some true := by rw [PK.out]; exact allM_all (by have := HA.out; rwa [List.take_length] at this)
         subst hv
         clear hlt hk HA
         go_upto_region 21 with fail
         refine regionL (E := [boxE (b + 1 + 1)]) (base := bK) S.out ?_
         clear S
         iterate 2 refine qa ?_
         refine qd undef [boxE (b + 1 + 1)] (h1 := fun Wx hSw => by (have hz := hSw.box (b := (b + 1 + 1)) (o := objE) 0 rfl; refine useZ5 hz fun z0 z1 z2 z3 z4 y0 y1 y2 y3 y4 => ?_; go_simp; exact ⟨rfl, hSw.set5 0 rfl (.string ⟨#[]⟩) (.int .i64 0) (.int .i64 0) (.string ⟨#[]⟩) (.bool false)⟩)) (h2 := ?_)
         refine doneL (h := fun w26 S => ?_)
         refine useR5 (S.box (b := b + 1 + 1) (o := objE) 0 rfl) fun r0 r1 r2 r3 r4 => ?_
         replace S := Lib.hid S
         repeat (first | go_values | go_skip | go_guarded | go_step)
         refine bodyPost_ret (v := .tuple #[.bool true, excZ]) ?_ ?_ ?_
         ·
          simp [results, Tryz.results122, go_sem, r0, r1, r2, r3, r4]
         ·
          rfl
         refine ⟨rfl, ?_⟩
         replace S := S.out
         rw [HBbK.out] at S
         rw [HBS.out] at S
         exact S.tail.tail.tail.tail
      ·
       have hk3b : (ky == 3) = false := by simp [hk3]
       obtain ⟨XS, hXS⟩ : ∃ l, H.items x = l := ⟨_, rfl⟩
       obtain ⟨YS, hYS⟩ : ∃ l, H.items y = l := ⟨_, rfl⟩
       have PK : Hid (rr = allM (fun p : V × V => H.sameF g p.1 p.2) (XS.zip YS)) := Lib.hid (by rw [HR3.out, HZ.out, if_neg (by rw [HKX.out]; exact hk3), hXS, hYS])
       have hxy : XS.length = YS.length := by
        have h1 := HNX.out
        have h2 := HNY.out
        unfold HeapM.sizeB at h1 h2
        rw [HKX.out, if_neg hk3, hXS] at h1
        rw [HKY.out, if_neg hk3, hYS] at h2
        omega
       have HXY := Lib.hid hxy
       have HXS := Lib.hid hXS
       have HYS := Lib.hid hYS
       clear hXS hYS hxy HR3 HZ hk3
       have KJ : Hid (∀ W (Q : List Res), Sep w (Q ++ bA) W → Calls Tryz.prog 78 #[.pointer (some ⟨h, 0, none⟩), .agg #[.int .i64 y.kind, .int .i64 y.n, .string y.s]] W fun e W' => ∃ a c, e = .returned (.slice a YS.length c) ∧ Sep w (valsR (.slice a YS.length c) YS :: (Q ++ bA)) W') := Lib.hid fun W Q T => by
        rw [HBS.out] at T ⊢
        exact items_at T (Q.length + 2 + i) (atI2 hi) G hN y YS HYS.out
       go_upto_region 22 with fail
       refine regionL (E := [emptyR, boxE (b + 1 + 1)]) (base := bA) (Sep.putE S.out) ?_
       clear S
       refine qa ?_
       refine qc C1 ?_
       refine stepL (fun v E1 => ∃ (a_27_1 : Option Addr) (c_27_1 : Nat), v = .slice a_27_1 YS.length c_27_1 ∧ E1 = [valsR (.slice a_27_1 YS.length c_27_1) YS, boxE (b + 1 + 1)]) (h1 := fun Wx hSw => by (go_simp; refine symCallN ?_; exact (KJ.out _ _ hSw).mono fun e W' ⟨a, c, e1, e2⟩ => ⟨_, _, e1, ⟨a, c, rfl, rfl⟩, e2.into 0 rfl⟩)) (h2 := fun v E1 hvE => ?_)
       obtain ⟨a_27_1, c_27_1, rfl, rfl⟩ := hvE; simp only [Act.put, pa]; try dsimp only [List.set]
       refine qa ?_
       refine doneL (h := fun w27 S => ?_)
       replace S := Lib.hid S
       have KI : Hid (∀ W (Q : List Res), Sep w (Q ++ bA) W → Calls Tryz.prog 78 #[.pointer (some ⟨h, 0, none⟩), .agg #[.int .i64 x.kind, .int .i64 x.n, .string x.s]] W fun e W' => ∃ a c, e = .returned (.slice a XS.length c) ∧ Sep w (valsR (.slice a XS.length c) XS :: (Q ++ bA)) W') := Lib.hid fun W Q T => by
        rw [HBS.out] at T ⊢
        exact items_at T (Q.length + 2 + i) (atI2 hi) G hN x XS HXS.out
       go_upto_region 23 with fail
       refine regionL (E := [emptyR, valsR (.slice a_27_1 YS.length c_27_1) YS, boxE (b + 1 + 1)]) (base := bA) (Sep.putE S.out) ?_
       clear S
       refine qa ?_
       refine qc C0 ?_
       refine stepL (fun v E1 => ∃ (a_28_1 : Option Addr) (c_28_1 : Nat), v = .slice a_28_1 XS.length c_28_1 ∧ E1 = [valsR (.slice a_28_1 XS.length c_28_1) XS, valsR (.slice a_27_1 YS.length c_27_1) YS, boxE (b + 1 + 1)]) (h1 := fun Wx hSw => by (go_simp; refine symCallN ?_; exact (KI.out _ _ hSw).mono fun e W' ⟨a, c, e1, e2⟩ => ⟨_, _, e1, ⟨a, c, rfl, rfl⟩, e2.into 0 rfl⟩)) (h2 := fun v E1 hvE => ?_)
       obtain ⟨a_28_1, c_28_1, rfl, rfl⟩ := hvE; simp only [Act.put, pa]; try dsimp only [List.set]
       iterate 2 refine qa ?_
       refine doneL (h := fun w28 S => ?_)
       replace S := Lib.hid S
       clear KI KJ
       have hkl : (XS.length : Int) ≤ 9223372036854775807 := by obtain ⟨_, _, e0, p1, p2, _⟩ := (S.out.row 0 rfl).sees'; cases e0; unfold maxLen at p2; omega
       obtain ⟨bK, hnb⟩ : ∃ l, l = [valsR (.slice a_28_1 XS.length c_28_1) XS, valsR (.slice a_27_1 YS.length c_27_1) YS] ++ bA := ⟨_, rfl⟩
       have HBbK := Lib.hid hnb
       replace S : Sep w ([boxE (b + 1 + 1)] ++ bK) w28 := by
        rw [hnb]
        refine S.out.perm ?_
        exact (show ([valsR (.slice a_28_1 XS.length c_28_1) XS, valsR (.slice a_27_1 YS.length c_27_1) YS, boxE (b + 1 + 1)] ++ bA).Perm ([boxE (b + 1 + 1)] ++ ([valsR (.slice a_28_1 XS.length c_28_1) XS, valsR (.slice a_27_1 YS.length c_27_1) YS] ++ bA)) from by rw [← List.append_assoc]; exact List.Perm.append_right bA (by exact perm_of [2, 0, 1] (by show (List.range' 0 3).Perm [2, 0, 1]; decide) (by rfl)))
       clear hnb
       replace S := Lib.hid S
       have C1_bK := liftC HBbK C1
       have C0_bK := liftC HBbK C0
       go_wp2
       go_loopw [122] (fun s122 wr => ∃ k : Nat, k ≤ XS.length ∧ s122 = .int .i64 k ∧ Hid (∀ q ∈ (XS.zip YS).take k, H.sameF g q.1 q.2 = some true) ∧ Sep w ([boxE (b + 1 + 1)] ++ bK) wr) (fun s122 _ => XS.length - (intOf s122).toNat)
       case atStart => exact ⟨0, Nat.zero_le _, rfl, Lib.hid (by simp), S.out⟩
       case round =>
        obtain ⟨k, hk, rfl, HA, S⟩ := hrel
        replace S := Lib.hid S
        by_cases hlt : k < XS.length
        ·
         have hlti : (k : Int) < XS.length := by omega
         have hlty : (k : Int) < YS.length := by have := HXY.out; omega
         obtain ⟨xv, hxv⟩ : ∃ z, XS[k]? = some z := ⟨XS[k], by simp [hlt]⟩
         obtain ⟨yv, hyv⟩ : ∃ v, YS[k]? = some v := ⟨YS[k]'(by have := HXY.out; omega), by simp⟩
         have hzk : (XS.zip YS)[k]? = some (xv, yv) := by rw [List.getElem?_zip_eq_some]; exact ⟨hxv, hyv⟩
         have T := S.out
         rw [HBbK.out] at T
         obtain ⟨g1, og, hag, -⟩ := (T.row 1 rfl).sees'.three hxv
         obtain ⟨g2, og2, hag2, -⟩ := (T.row 2 rfl).sees'.three hyv
         clear T
         subst hag hag2
         obtain ⟨q, hq⟩ : ∃ q, q = H.sameF g xv yv := ⟨_, rfl⟩
         have HZK := Lib.hid hzk
         have HLT := Lib.hid hlt
         have HXV := Lib.hid hxv
         have HYV := Lib.hid hyv
         have HQ := Lib.hid hq
         clear hlt hxv hyv hq hk hzk
         have CRX : Hid (∀ W (Q : List Res), Sep w (Q ++ bK) W → W.cell? ⟨g1, og + k * 3, none⟩ = some (.int .i64 xv.kind) ∧ W.cell? ⟨g1, og + k * 3 + 1, none⟩ = some (.int .i64 xv.n) ∧ W.cell? ⟨g1, og + k * 3 + 2, none⟩ = some (.string xv.s)) := Lib.hid fun W Q T => by
          rw [HBbK.out] at T
          exact sepThree T (Q.length + 0) (atR rfl) HXV.out
         have CRY : Hid (∀ W (Q : List Res), Sep w (Q ++ bK) W → W.cell? ⟨g2, og2 + k * 3, none⟩ = some (.int .i64 yv.kind) ∧ W.cell? ⟨g2, og2 + k * 3 + 1, none⟩ = some (.int .i64 yv.n) ∧ W.cell? ⟨g2, og2 + k * 3 + 2, none⟩ = some (.string yv.s)) := Lib.hid fun W Q T => by
          rw [HBbK.out] at T
          exact sepThree T (Q.length + 1) (atR rfl) HYV.out
         go_upto_region 25 with fail
         refine regionL (E := [emptyR, boxE (b + 1 + 1)]) (base := bK) (Sep.putE S.out) ?_
         clear S
         iterate 2 refine qa ?_
         refine qc CRX ?_
         refine allocL 0 rfl (fun q => .pointer (some ⟨q, 0, none⟩)) (.cells #[.int .i64 0, .int .i64 0, .string ⟨#[]⟩] 24) (h1 := fun Wx => by go_simp) (h2 := fun qz201 => ?_); simp only [Act.put, pa]; try dsimp only [List.set]
         try simp only [List.set_cons_zero, List.set_cons_succ]
         refine qa ?_
         refine qd undef [boxV qz201 xv, boxE (b + 1 + 1)] (h1 := fun Wx hSw => by (have hz := hSw.box (b := qz201) (o := objZ) 0 rfl; refine useZ3 hz fun z0 z1 z2 y0 y1 y2 => ?_; go_simp; exact ⟨rfl, hSw.set3 0 rfl (.int .i64 xv.kind) (.int .i64 xv.n) (.string xv.s)⟩)) (h2 := ?_)
         refine doneL (h := fun w29 S => ?_)
         replace S := Lib.hid S
         obtain ⟨bz, hnb⟩ : ∃ l, l = [boxV qz201 xv] ++ bK := ⟨_, rfl⟩
         have HBbz := Lib.hid hnb
         replace S : Sep w ([boxE (b + 1 + 1)] ++ bz) w29 := by
          rw [hnb]
          refine S.out.perm ?_
          exact (show ([boxV qz201 xv, boxE (b + 1 + 1)] ++ bK).Perm ([boxE (b + 1 + 1)] ++ ([boxV qz201 xv] ++ bK)) from by rw [← List.append_assoc]; exact List.Perm.append_right bK (by exact perm_of [1, 0] (by show (List.range' 0 2).Perm [1, 0]; decide) (by rfl)))
         clear hnb
         replace S := Lib.hid S
         have C1_bz := liftC HBbz C1_bK
         have C0_bz := liftC HBbz C0_bK
         have CRX_bz := liftC HBbz CRX
         have CRY_bz := liftC HBbz CRY
         have Cz20_bz := baseC3 (w := w) (b := qz201) HBbz.out 0 rfl
         match q, HQ with
         | some true, HQ =>
          have KS_ : QuietC w bA 122 #[hpV h, agV xv, agV yv, .int .i64 (d + 1)] (.tuple #[.bool true, excZ]) := Lib.hid fun W Q T => by
           rw [HBS.out] at T ⊢
           exact HI.out T (Q.length + 2 + i) (atI2 hi) xv yv (some true) HQ.out
          replace KS_ := (liftK HBbz (liftK HBbK KS_))
          go_upto_region 26 with fail
          refine regionP 12 3 (E := [emptyR, boxE (b + 1 + 1)]) (base := bz) (Sep.putE S.out) ?_
          clear S
          refine qp ?_
          refine qpc Cz20_bz ?_
          iterate 3 refine qp ?_
          refine qpc CRY_bz ?_
          iterate 2 refine qp ?_
          refine qpk KS_ ?_
          iterate 3 refine qp ?_
          refine endP ?_
          refine readyS [12] ?_
          refine allocS 0 rfl (fun q => .pointer (some ⟨q, 0, none⟩)) (.cells #[.string ⟨#[]⟩, .int .i64 0, .int .i64 0, .string ⟨#[]⟩, .bool false] 33) (h1 := fun Wx => by go_simp) (h2 := fun qe221 => ?_) (hs := nilS); simp only [Act.put, pa]; try dsimp only [List.set]
          try simp only [List.set_cons_zero, List.set_cons_succ]
          refine qs 13 ?_
          refine readyS [14] ?_
          refine detS undef [boxE qe221, boxE (b + 1 + 1)] (h1 := fun Wx hSw => by (have hz := hSw.box (b := qe221) (o := objE) 0 rfl; refine useZ5 hz fun z0 z1 z2 z3 z4 y0 y1 y2 y3 y4 => ?_; go_simp; exact ⟨rfl, hSw.set5 0 rfl (.string ⟨#[]⟩) (.int .i64 0) (.int .i64 0) (.string ⟨#[]⟩) (.bool false)⟩)) (h2 := ?_) (hs := nilS); simp only [Act.put, pa]; try dsimp only [List.set]
          refine doneS (h := fun w30 S => ?_)
          replace S := Lib.hid S
          go_upto_region 27 with fail
          refine regionL (E := [boxE qe221, boxE (b + 1 + 1)]) (base := bz) S.out ?_
          clear S
          iterate 2 refine qa ?_
          refine doneL (h := fun w31 S => ?_)
          replace S := Lib.hid S
          have hi1 : IntKind.i64.wrap ((k : Int) + 1) = (k : Int) + 1 := IntWalk.i64_in _ (by omega)
          replace S := S.out
          rw [HBbz.out] at S
          replace S := Lib.hid (S.sub (Qs := [boxE (b + 1 + 1)] ++ bK) (List.Sublist.cons _ (List.Sublist.cons_cons _ (List.Sublist.cons _ (List.Sublist.refl _)))))
          go_wp2
          exact ⟨⟨k + 1, HLT.out, by go_num, Lib.hid (take_snoc HZK.out HA.out HQ.out.symm), S.out⟩, by have := HLT.out; simp [intOf]; omega⟩
         | some false, HQ =>
          have KS_ : QuietC w bA 122 #[hpV h, agV xv, agV yv, .int .i64 (d + 1)] (.tuple #[.bool false, excZ]) := Lib.hid fun W Q T => by
           rw [HBS.out] at T ⊢
           exact HI.out T (Q.length + 2 + i) (atI2 hi) xv yv (some false) HQ.out
          replace KS_ := (liftK HBbz (liftK HBbK KS_))
          go_upto_region 26 with fail
          refine regionP 12 3 (E := [emptyR, boxE (b + 1 + 1)]) (base := bz) (Sep.putE S.out) ?_
          clear S
          refine qp ?_
          refine qpc Cz20_bz ?_
          iterate 3 refine qp ?_
          refine qpc CRY_bz ?_
          iterate 2 refine qp ?_
          refine qpk KS_ ?_
          iterate 3 refine qp ?_
          refine endP ?_
          refine readyS [12] ?_
          refine allocS 0 rfl (fun q => .pointer (some ⟨q, 0, none⟩)) (.cells #[.string ⟨#[]⟩, .int .i64 0, .int .i64 0, .string ⟨#[]⟩, .bool false] 33) (h1 := fun Wx => by go_simp) (h2 := fun qe221 => ?_) (hs := nilS); simp only [Act.put, pa]; try dsimp only [List.set]
          try simp only [List.set_cons_zero, List.set_cons_succ]
          refine qs 13 ?_
          refine readyS [14] ?_
          refine detS undef [boxE qe221, boxE (b + 1 + 1)] (h1 := fun Wx hSw => by (have hz := hSw.box (b := qe221) (o := objE) 0 rfl; refine useZ5 hz fun z0 z1 z2 z3 z4 y0 y1 y2 y3 y4 => ?_; go_simp; exact ⟨rfl, hSw.set5 0 rfl (.string ⟨#[]⟩) (.int .i64 0) (.int .i64 0) (.string ⟨#[]⟩) (.bool false)⟩)) (h2 := ?_) (hs := nilS); simp only [Act.put, pa]; try dsimp only [List.set]
          refine doneS (h := fun w32 S => ?_)
          replace S := Lib.hid S
          go_upto_region 27 with fail
          refine regionL (E := [boxE qe221, boxE (b + 1 + 1)]) (base := bz) S.out ?_
          clear S
          iterate 2 refine qa ?_
          refine doneL (h := fun w33 S => ?_)
          replace S := Lib.hid S
          have hv : rr = some false := by rw [PK.out, allM_stop HZK.out HA.out (by rw [← HQ.out]; simp)]; exact HQ.out.symm
          subst hv
          go_upto_region 28 with fail
          refine regionS (E := [boxE qe221, boxE (b + 1 + 1)]) (base := bz) S.out ?_
          clear S
          refine qs 1 ?_
          refine readyS [0] ?_
          refine detS _ [boxE qe221, boxE (b + 1 + 1)] (h1 := fun Wx hSw => by (have hz := hSw.box (b := qe221) (o := objE) 0 rfl; have z0 := cellAt hz 0 (v := .string ⟨#[]⟩) rfl; have z1 := cellAt hz 1 (v := .int .i64 0) rfl; have z2 := cellAt hz 2 (v := .int .i64 0) rfl; have z3 := cellAt hz 3 (v := .string ⟨#[]⟩) rfl; have z4 := cellAt hz 4 (v := .bool false) rfl; go_simp; exact ⟨rfl, hSw⟩)) (h2 := ?_) (hs := nilS); simp only [Act.put, pa]; try dsimp only [List.set]
          refine readyS [2] ?_
          refine detS undef [boxE qe221, boxE (b + 1 + 1)] (h1 := fun Wx hSw => by (have hz := hSw.box (b := (b + 1 + 1)) (o := objE) 1 rfl; refine useZ5 hz fun z0 z1 z2 z3 z4 y0 y1 y2 y3 y4 => ?_; go_simp; exact ⟨rfl, hSw.set5 1 rfl (.string ⟨#[]⟩) (.int .i64 0) (.int .i64 0) (.string ⟨#[]⟩) (.bool false)⟩)) (h2 := ?_) (hs := nilS); simp only [Act.put, pa]; try dsimp only [List.set]
          refine doneS (h := fun w34 S => ?_)
          refine useR5 (S.box (b := b + 1 + 1) (o := objE) 1 rfl) fun r0 r1 r2 r3 r4 => ?_
          replace S := Lib.hid S
          repeat (first | go_values | go_skip | go_guarded | go_step)
          refine bodyPost_ret (v := .tuple #[.bool false, excZ]) ?_ ?_ ?_
          ·
           simp [results, Tryz.results122, go_sem, r0, r1, r2, r3, r4]
          ·
           rfl
          refine ⟨rfl, ?_⟩
          replace S := S.out
          rw [HBbz.out] at S
          rw [HBbK.out] at S
          rw [HBS.out] at S
          exact S.tail.tail.tail.tail.tail.tail.tail
         | none, HQ =>
          have KS_ : QuietC w bA 122 #[hpV h, agV xv, agV yv, .int .i64 (d + 1)] (.tuple #[.bool false, excN recursionError]) := Lib.hid fun W Q T => by
           rw [HBS.out] at T ⊢
           exact HI.out T (Q.length + 2 + i) (atI2 hi) xv yv (none) HQ.out
          replace KS_ := (liftK HBbz (liftK HBbK KS_))
          go_upto_region 26 with fail
          refine regionP 12 3 (E := [emptyR, boxE (b + 1 + 1)]) (base := bz) (Sep.putE S.out) ?_
          clear S
          refine qp ?_
          refine qpc Cz20_bz ?_
          iterate 3 refine qp ?_
          refine qpc CRY_bz ?_
          iterate 2 refine qp ?_
          refine qpk KS_ ?_
          iterate 3 refine qp ?_
          refine endP ?_
          refine readyS [12] ?_
          refine allocS 0 rfl (fun q => .pointer (some ⟨q, 0, none⟩)) (.cells #[.string ⟨#[]⟩, .int .i64 0, .int .i64 0, .string ⟨#[]⟩, .bool false] 33) (h1 := fun Wx => by go_simp) (h2 := fun qe221 => ?_) (hs := nilS); simp only [Act.put, pa]; try dsimp only [List.set]
          try simp only [List.set_cons_zero, List.set_cons_succ]
          refine qs 13 ?_
          refine readyS [14] ?_
          refine detS undef [boxN qe221 recursionError, boxE (b + 1 + 1)] (h1 := fun Wx hSw => by (have hz := hSw.box (b := qe221) (o := objE) 0 rfl; refine useZ5 hz fun z0 z1 z2 z3 z4 y0 y1 y2 y3 y4 => ?_; go_simp; exact ⟨rfl, hSw.set5 0 rfl (.string recursionError) (.int .i64 0) (.int .i64 0) (.string ⟨#[]⟩) (.bool false)⟩)) (h2 := ?_) (hs := nilS); simp only [Act.put, pa]; try dsimp only [List.set]
          refine doneS (h := fun w35 S => ?_)
          replace S := Lib.hid S
          go_upto_region 27 with fail
          refine regionL (E := [boxN qe221 recursionError, boxE (b + 1 + 1)]) (base := bz) S.out ?_
          clear S
          iterate 2 refine qa ?_
          refine doneL (h := fun w36 S => ?_)
          replace S := Lib.hid S
          have hv : rr = none := by rw [PK.out, allM_stop HZK.out HA.out (by rw [← HQ.out]; simp)]; exact HQ.out.symm
          subst hv
          go_upto_region 28 with fail
          refine regionS (E := [boxN qe221 recursionError, boxE (b + 1 + 1)]) (base := bz) S.out ?_
          clear S
          refine qs 1 ?_
          refine readyS [0] ?_
          refine detS _ [boxN qe221 recursionError, boxE (b + 1 + 1)] (h1 := fun Wx hSw => by (have hz := hSw.box (b := qe221) (o := objN recursionError) 0 rfl; have z0 := cellAt hz 0 (v := .string recursionError) rfl; have z1 := cellAt hz 1 (v := .int .i64 0) rfl; have z2 := cellAt hz 2 (v := .int .i64 0) rfl; have z3 := cellAt hz 3 (v := .string ⟨#[]⟩) rfl; have z4 := cellAt hz 4 (v := .bool false) rfl; go_simp; exact ⟨rfl, hSw⟩)) (h2 := ?_) (hs := nilS); simp only [Act.put, pa]; try dsimp only [List.set]
          refine readyS [2] ?_
          refine detS undef [boxN qe221 recursionError, boxN (b + 1 + 1) recursionError] (h1 := fun Wx hSw => by (have hz := hSw.box (b := (b + 1 + 1)) (o := objE) 1 rfl; refine useZ5 hz fun z0 z1 z2 z3 z4 y0 y1 y2 y3 y4 => ?_; go_simp; exact ⟨rfl, hSw.set5 1 rfl (.string recursionError) (.int .i64 0) (.int .i64 0) (.string ⟨#[]⟩) (.bool false)⟩)) (h2 := ?_) (hs := nilS); simp only [Act.put, pa]; try dsimp only [List.set]
          refine doneS (h := fun w37 S => ?_)
          refine useR5 (S.box (b := b + 1 + 1) (o := objN recursionError) 1 rfl) fun r0 r1 r2 r3 r4 => ?_
          replace S := Lib.hid S
          repeat (first | go_values | go_skip | go_guarded | go_step)
          refine bodyPost_ret (v := .tuple #[.bool false, excN recursionError]) ?_ ?_ ?_
          ·
           simp [results, Tryz.results122, go_sem, r0, r1, r2, r3, r4]
          ·
           rfl
          refine ⟨rfl, ?_⟩
          replace S := S.out
          rw [HBbz.out] at S
          rw [HBbK.out] at S
          rw [HBS.out] at S
          exact S.tail.tail.tail.tail.tail.tail.tail
        ·
         obtain rfl : k = XS.length := by omega
         have hno : ¬ ((XS.length : Int) < XS.length) := by omega
         have hv : rr = some true := by rw [PK.out]; exact allM_all (by have := HA.out; rwa [List.take_of_length_le (by rw [List.length_zip]; omega)] at this)
         subst hv
         clear hlt hk HA
         go_upto_region 30 with fail
         refine regionL (E := [boxE (b + 1 + 1)]) (base := bK) S.out ?_
         clear S
         iterate 2 refine qa ?_
         refine qd undef [boxE (b + 1 + 1)] (h1 := fun Wx hSw => by (have hz := hSw.box (b := (b + 1 + 1)) (o := objE) 0 rfl; refine useZ5 hz fun z0 z1 z2 z3 z4 y0 y1 y2 y3 y4 => ?_; go_simp; exact ⟨rfl, hSw.set5 0 rfl (.string ⟨#[]⟩) (.int .i64 0) (.int .i64 0) (.string ⟨#[]⟩) (.bool false)⟩)) (h2 := ?_)
         refine doneL (h := fun w38 S => ?_)
         refine useR5 (S.box (b := b + 1 + 1) (o := objE) 0 rfl) fun r0 r1 r2 r3 r4 => ?_
         replace S := Lib.hid S
         repeat (first | go_values | go_skip | go_guarded | go_step)
         refine bodyPost_ret (v := .tuple #[.bool true, excZ]) ?_ ?_ ?_
         ·
          simp [results, Tryz.results122, go_sem, r0, r1, r2, r3, r4]
         ·
          rfl
         refine ⟨rfl, ?_⟩
         replace S := S.out
         rw [HBbK.out] at S
         rw [HBS.out] at S
         exact S.tail.tail.tail.tail.tail
    ·
     have hnn1 : (nx != ny) = true := by simp [hnn]
     have hnn2 : (nx : Int) ≠ (ny : Int) := by omega
     have hv : rr = some false := by have e1 := HR2.out; rwa [if_pos hnn] at e1
     subst hv
     go_upto_region 6 with fail
     refine regionL (E := [boxE (b + 1 + 1)]) (base := bA) S.out ?_
     clear S
     iterate 2 refine qa ?_
     refine qd undef [boxE (b + 1 + 1)] (h1 := fun Wx hSw => by (have hz := hSw.box (b := (b + 1 + 1)) (o := objE) 0 rfl; refine useZ5 hz fun z0 z1 z2 z3 z4 y0 y1 y2 y3 y4 => ?_; go_simp; exact ⟨rfl, hSw.set5 0 rfl (.string ⟨#[]⟩) (.int .i64 0) (.int .i64 0) (.string ⟨#[]⟩) (.bool false)⟩)) (h2 := ?_)
     refine doneL (h := fun w39 S => ?_)
     refine useR5 (S.box (b := b + 1 + 1) (o := objE) 0 rfl) fun r0 r1 r2 r3 r4 => ?_
     replace S := Lib.hid S
     repeat (first | go_values | go_skip | go_guarded | go_step)
     refine bodyPost_ret (v := .tuple #[.bool false, excZ]) ?_ ?_ ?_
     ·
      simp [results, Tryz.results122, go_sem, r0, r1, r2, r3, r4]
     ·
      rfl
     refine ⟨rfl, ?_⟩
     replace S := S.out
     rw [HBS.out] at S
     exact S.tail.tail.tail
end
end Go.Proofs.YtijlebhoapdfnaaGreat
