/- ch 16: the reference's equality. -/
import Derived.Test.YtijlebhoapdfnaaGreatAlike16
import Derived.Test.YtijlebhoapdfnaaGreatRows3
import Derived.Test.YtijlebhoapdfnaaGreatFit
import Derived.Test.YtijlebhoapdfnaaGreatOperM
/- ch 16: equality is an equivalence, where nothing is raised. -/
namespace Go.Proofs.YtijlebhoapdfnaaGreat
set_option linter.unusedSimpArgs false
open Go.RowKit
set_option linter.unusedVariables false
theorem allM_true {α : Type} {p : α → Option Bool} : ∀ {l : List α}, allM p l = some true ↔ ∀ x ∈ l, p x = some true
 | [] => by simp [allM]
 | x :: l => by
  unfold allM
  constructor
  ·
   intro h
   cases e : p x with
   | none => rw [e] at h; cases h
   | some b =>
    cases b with
    | false => rw [e] at h; cases h
    | true => rw [e] at h; exact fun y hy => (List.mem_cons.1 hy).elim (fun q => by rw [q]; exact e) (allM_true.1 h y)
  ·
   intro h
   rw [h x (List.mem_cons_self ..)]
   exact allM_true.2 fun y hy => h y (List.mem_cons_of_mem _ hy)
section
variable {H : HeapM}
theorem kind_four {v : V} (h : H.kind v ≠ 0) : v.kind = 4 := by
 unfold HeapM.kind HeapM.of at h
 by_cases e : v.kind = 4
 ·
  exact e
 ·
  rw [if_neg e] at h; exact absurd rfl h
theorem of_same {a b : V} (ha : H.kind a ≠ 0) (hb : H.kind b ≠ 0) (hn : a.n = b.n) : H.of a = H.of b := by
 unfold HeapM.of
 rw [if_pos (kind_four ha), if_pos (kind_four hb), hn]
theorem oneB_iff {a b : V} : H.oneB a b = true ↔ (H.kind a = 0 ∧ H.kind b = 0 ∧ a = b) ∨ (H.kind a ≠ 0 ∧ H.kind b ≠ 0 ∧ a.n = b.n) := by
 unfold HeapM.oneB
 by_cases h : H.kind a = 0 ∧ H.kind b = 0
 ·
  rw [if_pos h]; simp [h.1, h.2]
 ·
  rw [if_neg h]
  simp only [Bool.and_eq_true, decide_eq_true_eq]
  constructor
  ·
   exact .inr
  ·
   rintro (⟨h1, h2, _⟩ | h1)
   ·
    exact absurd ⟨h1, h2⟩ h
   ·
    exact h1
theorem oneB_self (a : V) : H.oneB a a = true := by
 rw [oneB_iff]
 by_cases h : H.kind a = 0
 ·
  exact .inl ⟨h, h, rfl⟩
 ·
  exact .inr ⟨h, h, rfl⟩
theorem sameT_one {a b : V} {r : Option Bool} (h : H.oneB a b = true) : H.sameT a b r = some true := by unfold HeapM.sameT; rw [if_pos h]
/-- What is within: the third way of sameT. -/
def HeapM.inside (H : HeapM) (f : Nat) (a b : V) : Option Bool :=
 if H.kind a = 3 then allM (fun k : V => match H.get b k with | none => some false | some y => H.sameF f ((H.get a k).getD V.zero) y) ((H.pairs a).map (·.1))
 else allM (fun p : V × V => H.sameF f p.1 p.2) ((H.items a).zip (H.items b))
end
end Go.Proofs.YtijlebhoapdfnaaGreat
/- ch 16: equality as the reference asks (plain). -/
namespace Go.Proofs.YtijlebhoapdfnaaGreat
set_option linter.unusedSimpArgs false
open Go.RowKit
set_option linter.unusedVariables false
section
variable {H : HeapM}
theorem kind_rowB {a : V} : H.rowB a = true ↔ (H.kind a = 1 ∨ H.kind a = 2) := by unfold HeapM.rowB; simp
/-- The reference's order of questions. -/
theorem sameT_ref (a b : V) (r : Option Bool) : H.sameT a b r = if H.kind a = 0 ∨ H.kind b ≠ H.kind a then some (decide (a = b)) else if a.n = b.n then some true else if H.wholeB a = false then some false
  else if H.sizeB a ≠ H.sizeB b then some false else r := by
 by_cases h1 : H.kind a = 0 ∨ H.kind b ≠ H.kind a
 ·
  rw [if_pos h1]
  by_cases h2 : H.oneB a b = true
  ·
   rw [sameT_one h2]
   rcases oneB_iff.1 h2 with ⟨_, _, e⟩ | ⟨ka, kb, hn⟩
   ·
    rw [decide_eq_true e]
   ·
    have ho := of_same ka kb hn
    have hk : H.kind a = H.kind b := by unfold HeapM.kind; rw [ho]
    rcases h1 with h | h
    ·
     exact absurd h ka
    ·
     exact absurd hk.symm h
  ·
   unfold HeapM.sameT
   rw [if_neg h2]
   have h3 : ¬ a = b := fun e => h2 (by rw [e]; exact oneB_self b)
   have h4 : H.wholeB a = false ∨ H.kind a ≠ H.kind b := by
    rcases h1 with h | h
    ·
     left; unfold HeapM.wholeB HeapM.rowB; rw [h]; decide
    ·
     exact .inr (Ne.symm h)
   rw [if_pos h4, decide_eq_false h3, Bool.and_false]
 ·
  rw [if_neg h1]
  have k0 : H.kind a ≠ 0 := fun e => h1 (.inl e)
  have kk : H.kind b = H.kind a := Classical.byContradiction fun e => h1 (.inr e)
  have kb : H.kind b ≠ 0 := by rw [kk]; exact k0
  by_cases hn : a.n = b.n
  ·
   rw [if_pos hn]; exact sameT_one (oneB_iff.2 (.inr ⟨k0, kb, hn⟩))
  ·
   rw [if_neg hn]
   have h2 : ¬ H.oneB a b = true := fun e => by
    rcases oneB_iff.1 e with ⟨h, _⟩ | ⟨_, _, h⟩
    ·
     exact k0 h
    ·
     exact hn h
   unfold HeapM.sameT
   rw [if_neg h2]
   by_cases hw : H.wholeB a = false
   ·
    rw [if_pos (.inl hw), if_pos hw, decide_eq_false k0, decide_eq_false kb]; rfl
   ·
    rw [if_neg (by rintro (h | h); exact hw h; exact h kk.symm), if_neg hw]
end
end Go.Proofs.YtijlebhoapdfnaaGreat
set_option maxRecDepth 100000
set_option maxHeartbeats 12800000
namespace Go.Proofs.YtijlebhoapdfnaaGreat
set_option linter.unusedSimpArgs false
open Go.RowKit
set_option linter.unusedVariables false
attribute [local irreducible] wpSeqS wpAnyS wpPreS
/-- What is raised, by its name. -/
def nmS : Option Bool → ByteArray | some _ => ⟨#[]⟩ | none => recursionError
theorem sameV_nm (r : Option Bool) : sameV r = .tuple #[.bool (r.getD false), excN (nmS r)] := by cases r <;> rfl
theorem ra_stop {α : Type} {p : α → Option Bool} : ∀ {l : List α} {k : Nat} {x : α}, l[k]? = some x → (∀ y ∈ l.take k, p y = some true) → p x ≠ some true → allM p l = p x
 | [], k, x, h, _, _ => by simp at h
 | a :: l, 0, x, h, _, hp => by
  simp at h; subst h
  unfold allM
  split
  ·
   rename_i e; exact absurd e hp
  ·
   rfl
 | a :: l, k + 1, x, h, ha, hp => by
  have h1 : p a = some true := ha a (by simp)
  unfold allM
  rw [h1]
  exact ra_stop (l := l) (k := k) (by simpa using h) (fun y hy => ha y (by simp [hy])) hp
theorem ra_snoc {α : Type} {l : List α} {k : Nat} {x : α} (h : l[k]? = some x) {p : α → Prop} (ha : ∀ y ∈ l.take k, p y) (hx : p x) : ∀ y ∈ l.take (k + 1), p y := by
 intro y hy
 rw [List.take_add_one, h] at hy
 rcases List.mem_append.1 hy with hh | hh
 ·
  exact ha y hh
 ·
  simp at hh; subst hh; exact hx
theorem ra_eq {x y : V} (h1 : x.kind = y.kind) (h2 : x.n = y.n) : (x.s.toList == y.s.toList) = decide (x = y) := by
 by_cases h : x = y
 ·
  subst h; simp
 ·
  have h3 : ¬ x.s.toList = y.s.toList := fun e => h (by
   have e3 : x.s = y.s := by rw [ByteArray.toList_eq, ByteArray.toList_eq] at e; exact ByteArray.ext (Array.toList_inj.1 e)
   cases x; cases y; simp_all)
  rw [decide_eq_false h]; simpa using h3
theorem ra_three {a : Option Addr} {n c : Nat} {l : List V} {W : World} (hs : SeesV W (.slice a n c) l) {k : Nat} {x : V} (hx : l[k]? = some x) : ∃ g o, a = some ⟨g, o, none⟩ ∧ ∀ i v, l[i]? = some v → W.cell? ⟨g, o + i * 3, none⟩ = some (.int .i64 v.kind) ∧ W.cell? ⟨g, o + i * 3 + 1, none⟩ = some (.int .i64 v.n) ∧ W.cell? ⟨g, o + i * 3 + 2, none⟩ = some (.string v.s) := by
 obtain ⟨_, _, e0, p1, p2, p3⟩ := hs
 cases e0
 rcases p3 with hh | hh
 ·
  subst hh; simp at hx
 ·
  exact hh
section
variable {w W : World} {Rs : List Res} {h : Nat} {H : HeapM}
theorem raThree {g o c : Nat} {l : List V} (S : Sep w Rs W) (j : Nat) (hj : Rs[j]? = some (valsR (.slice (some ⟨g, o, none⟩) l.length c) l)) {k : Nat} {x : V} (hx : l[k]? = some x) : W.cell? ⟨g, o + k * 3, none⟩ = some (.int .i64 x.kind) ∧ W.cell? ⟨g, o + k * 3 + 1, none⟩ = some (.int .i64 x.n) ∧ W.cell? ⟨g, o + k * 3 + 2, none⟩ = some (.string x.s) := by
 obtain ⟨g1, o1, e, hh⟩ := ra_three (S.row j hj).sees' hx
 cases e
 exact hh k x hx
theorem rexc_ok (S : Sep w Rs W) (s : ByteArray) : Calls Tryz.prog 94 #[.string s] W fun e W' => e = .returned (excN s) ∧ Sep w Rs W' := by
 obtain ⟨b, hb⟩ : ∃ gx_, (W.heap.size) = gx_ := ⟨_, rfl⟩
 replace S := (S.alloc (.cells #[.string ⟨#[]⟩, .int .i64 0, .int .i64 0, .string ⟨#[]⟩, .bool false] 33))
 simp only [World.size_alloc, hb] at S
 obtain ⟨bA, hbs⟩ : ∃ l, l = Rs := ⟨_, rfl⟩
 have HBS := Lib.hid hbs
 replace S := enterP (w := w) (all := [boxE b]) (E := [boxE b]) (B := []) (Rs := Rs) S hbs (perm_of [0] (by show (List.range' 0 1).Perm [0]; decide) (by rfl))
 clear hbs
 replace S := Lib.hid S
 go_enter Tryz.func94, Tryz.ntmps94
 go_upto_region 1 with fail
 try simp only [World.size_alloc, hb]
 clear hb
 refine regionL (E := [boxE b]) (base := bA) S.out ?_
 clear S
 iterate 2 refine qa ?_
 refine qd undef [boxN b s] (h1 := fun Wx hSw => by (have hz := hSw.box (b := b) (o := objE) 0 rfl; refine useZ5 hz fun z0 z1 z2 z3 z4 y0 y1 y2 y3 y4 => ?_; go_simp; exact ⟨rfl, hSw.set5 0 rfl (.string s) (.int .i64 0) (.int .i64 0) (.string ⟨#[]⟩) (.bool false)⟩)) (h2 := ?_)
 refine doneL (h := fun w1 S => ?_)
 refine useR5 (S.box (b := b) (o := objN s) 0 rfl) fun r0 r1 r2 r3 r4 => ?_
 replace S := Lib.hid S
 repeat (first | go_values | go_skip | go_guarded | go_step)
 refine bodyPost_ret (v := excN s) ?_ ?_ ?_
 ·
  simp [results, Tryz.results94, go_sem, r0, r1, r2, r3, r4]
 ·
  rfl
 refine ⟨rfl, ?_⟩
 replace S := S.out
 rw [HBS.out] at S
 exact S.tail
theorem rwrong_ok (S : Sep w Rs W) : Calls Tryz.prog 49 #[] W fun e W' => e = .returned (.tuple #[zeroV, excN typeError]) ∧ Sep w Rs W' := by
 obtain ⟨b, hb⟩ : ∃ gx_, (W.heap.size) = gx_ := ⟨_, rfl⟩
 replace S := ((S.alloc (.cells #[.int .i64 0, .int .i64 0, .string ⟨#[]⟩] 24)).alloc (.cells #[.string ⟨#[]⟩, .int .i64 0, .int .i64 0, .string ⟨#[]⟩, .bool false] 33))
 simp only [World.size_alloc, hb] at S
 obtain ⟨bA, hbs⟩ : ∃ l, l = Rs := ⟨_, rfl⟩
 have HBS := Lib.hid hbs
 replace S := enterP (w := w) (all := [boxE (b + 1), boxZ b]) (E := [boxE (b + 1), boxZ b]) (B := []) (Rs := Rs) S hbs (perm_of [0, 1] (by show (List.range' 0 2).Perm [0, 1]; decide) (by rfl))
 clear hbs
 replace S := Lib.hid S
 go_enter Tryz.func49, Tryz.ntmps49
 go_upto_region 1 with fail
 try simp only [World.size_alloc, hb]
 clear hb
 have KE : QuietC w bA 94 #[.string typeError] (excN typeError) := Lib.hid fun W Q T => by
  exact rexc_ok T typeError
 refine regionL (E := [boxE (b + 1), boxZ b]) (base := bA) S.out ?_
 clear S
 refine qa ?_
 refine qk KE ?_
 refine qd undef [boxE (b + 1), boxZ b] (h1 := fun Wx hSw => by (have hz := hSw.box (b := b) (o := objZ) 1 rfl; refine useZ3 hz fun z0 z1 z2 y0 y1 y2 => ?_; go_simp; exact ⟨rfl, hSw.set3 1 rfl (.int .i64 0) (.int .i64 0) (.string ⟨#[]⟩)⟩)) (h2 := ?_)
 refine qd undef [boxN (b + 1) typeError, boxZ b] (h1 := fun Wx hSw => by (have hz := hSw.box (b := (b + 1)) (o := objE) 0 rfl; refine useZ5 hz fun z0 z1 z2 z3 z4 y0 y1 y2 y3 y4 => ?_; go_simp; exact ⟨rfl, hSw.set5 0 rfl (.string typeError) (.int .i64 0) (.int .i64 0) (.string ⟨#[]⟩) (.bool false)⟩)) (h2 := ?_)
 refine doneL (h := fun w1 S => ?_)
 refine useR3 (S.box (b := b) (o := objZ) 1 rfl) fun r0 r1 r2 => ?_
 refine useR5 (S.box (b := b + 1) (o := objN typeError) 0 rfl) fun r3 r4 r5 r6 r7 => ?_
 replace S := Lib.hid S
 repeat (first | go_values | go_skip | go_guarded | go_step)
 refine bodyPost_ret (v := .tuple #[zeroV, excN typeError]) ?_ ?_ ?_
 ·
  simp [results, Tryz.results49, go_sem, r0, r1, r2, r3, r4, r5, r6, r7]
 ·
  rfl
 refine ⟨rfl, ?_⟩
 replace S := S.out
 rw [HBS.out] at S
 exact S.tail.tail
theorem rrow_ok (S : Sep w Rs W) (i : Nat) (hi : Rs[i]? = some (refR h H)) (x : V) (rk : Int) (hk : (if H.rowB x = true then H.kind x else 0) = rk) : Calls Tryz.prog 58 #[.pointer (some ⟨h, 0, none⟩), .agg #[.int .i64 x.kind, .int .i64 x.n, .string x.s]] W fun e W' => e = .returned (.int .i64 rk) ∧ Sep w Rs W' := by
 obtain ⟨kx, hK⟩ : ∃ k, H.kind x = k := ⟨_, rfl⟩
 have hv : (if kx = 1 ∨ kx = 2 then kx else 0) = rk := by rw [← hk]; unfold HeapM.rowB; rw [hK]; simp
 have HK := Lib.hid hK
 have HV := Lib.hid hv
 clear hK hk hv
 obtain ⟨b, hb⟩ : ∃ gx_, (W.heap.size) = gx_ := ⟨_, rfl⟩
 replace S := (S.alloc (.cells #[.int .i64 x.kind, .int .i64 x.n, .string x.s] 24))
 simp only [World.size_alloc, hb] at S
 obtain ⟨bA, hbs⟩ : ∃ l, l = boxV b x :: Rs := ⟨_, rfl⟩
 have HBS := Lib.hid hbs
 replace S := enterP (w := w) (all := [boxV b x]) (E := []) (B := [boxV b x]) (Rs := Rs) S hbs (perm_of [0] (by show (List.range' 0 1).Perm [0]; decide) (by rfl))
 have C0 := baseC3 (w := w) (b := b) hbs 0 rfl
 clear hbs
 replace S := Lib.hid S
 go_enter Tryz.func58, Tryz.ntmps58
 go_upto_region 1 with fail
 try simp only [World.size_alloc, hb]
 clear hb
 have KK : QuietC w bA 60 #[hpV h, agV x] (.int .i64 kx) := Lib.hid fun W Q T => by
  rw [HBS.out] at T ⊢
  exact rkind_at T (Q.length + 1 + i) (atI1 hi) x kx HK.out
 refine regionL (E := []) (base := bA) S.out ?_
 clear S
 refine qa ?_
 refine qc C0 ?_
 refine qk KK ?_
 refine qa ?_
 refine doneL (h := fun w1 S => ?_)
 replace S := Lib.hid S
 by_cases h1 : kx = 1
 ·
  have e : rk = 1 := by have := HV.out; rw [if_pos (.inl h1)] at this; omega
  subst e h1
  go_upto_region 2 with fail
  refine regionL (E := []) (base := bA) S.out ?_
  clear S
  iterate 3 refine qa ?_
  iterate 2 refine qz ?_
  refine qa ?_
  refine doneL (h := fun w2 S => ?_)
  replace S := Lib.hid S
  go_upto_region 3 with fail
  refine regionL (E := []) (base := bA) S.out ?_
  clear S
  iterate 2 refine qa ?_
  refine doneL (h := fun w3 S => ?_)
  replace S := Lib.hid S
  go_wp2
  refine bodyPost_ret (v := .int .i64 1) ?_ ?_ ?_
  ·
   simp [results, Tryz.results58, go_sem]
  ·
   rfl
  refine ⟨rfl, ?_⟩
  replace S := S.out
  rw [HBS.out] at S
  exact S.tail
 by_cases h2 : kx = 2
 ·
  have e : rk = 2 := by have := HV.out; rw [if_pos (.inr h2)] at this; omega
  subst e h2
  clear h1
  go_upto_region 2 with fail
  refine regionL (E := []) (base := bA) S.out ?_
  clear S
  iterate 6 refine qa ?_
  refine doneL (h := fun w4 S => ?_)
  replace S := Lib.hid S
  go_upto_region 3 with fail
  refine regionL (E := []) (base := bA) S.out ?_
  clear S
  iterate 2 refine qa ?_
  refine doneL (h := fun w5 S => ?_)
  replace S := Lib.hid S
  go_wp2
  refine bodyPost_ret (v := .int .i64 2) ?_ ?_ ?_
  ·
   simp [results, Tryz.results58, go_sem]
  ·
   rfl
  refine ⟨rfl, ?_⟩
  replace S := S.out
  rw [HBS.out] at S
  exact S.tail
 ·
  have e : rk = 0 := by have := HV.out; rw [if_neg (by rintro (e | e); exact h1 e; exact h2 e)] at this; omega
  subst e
  have e1 : (kx == 1) = false := by simp [h1]
  have e2 : (kx == 2) = false := by simp [h2]
  go_upto_region 2 with fail
  refine regionL (E := []) (base := bA) S.out ?_
  clear S
  iterate 6 refine qa ?_
  refine doneL (h := fun w6 S => ?_)
  replace S := Lib.hid S
  go_upto_region 4 with fail
  refine regionL (E := []) (base := bA) S.out ?_
  clear S
  refine qa ?_
  refine doneL (h := fun w7 S => ?_)
  replace S := Lib.hid S
  go_wp2
  refine bodyPost_ret (v := .int .i64 0) ?_ ?_ ?_
  ·
   simp [results, Tryz.results58, go_sem]
  ·
   rfl
  refine ⟨rfl, ?_⟩
  replace S := S.out
  rw [HBS.out] at S
  exact S.tail
theorem rsize_ok (S : Sep w Rs W) (i : Nat) (hi : Rs[i]? = some (refR h H)) {N : Nat} (G : H.Good N) (hN : N ≤ 4000000) (x : V) (n : Nat) (hn : (H.pairs x).length = n) : Calls Tryz.prog 67 #[.pointer (some ⟨h, 0, none⟩), .agg #[.int .i64 x.kind, .int .i64 x.n, .string x.s]] W fun e W' => e = .returned (.int .i64 n) ∧ Sep w Rs W' := by
 obtain ⟨KS, hKS⟩ : ∃ KS, (H.pairs x).map (·.1) = KS := ⟨_, rfl⟩
 have hl : KS.length = n := by rw [← hKS, List.length_map]; exact hn
 subst hl
 have HKS := Lib.hid hKS
 clear hn hKS
 obtain ⟨b, hb⟩ : ∃ gx_, (W.heap.size) = gx_ := ⟨_, rfl⟩
 replace S := (S.alloc (.cells #[.int .i64 x.kind, .int .i64 x.n, .string x.s] 24))
 simp only [World.size_alloc, hb] at S
 obtain ⟨bA, hbs⟩ : ∃ l, l = boxV b x :: Rs := ⟨_, rfl⟩
 have HBS := Lib.hid hbs
 replace S := enterP (w := w) (all := [boxV b x]) (E := []) (B := [boxV b x]) (Rs := Rs) S hbs (perm_of [0] (by show (List.range' 0 1).Perm [0]; decide) (by rfl))
 have C0 := baseC3 (w := w) (b := b) hbs 0 rfl
 clear hbs
 replace S := Lib.hid S
 go_enter Tryz.func67, Tryz.ntmps67
 go_upto_region 1 with fail
 try simp only [World.size_alloc, hb]
 clear hb
 have KI : Hid (∀ W (Q : List Res), Sep w (Q ++ bA) W → Calls Tryz.prog 71 #[.pointer (some ⟨h, 0, none⟩), .agg #[.int .i64 x.kind, .int .i64 x.n, .string x.s]] W fun e W' => ∃ a c, e = .returned (.slice a KS.length c) ∧ Sep w (valsR (.slice a KS.length c) KS :: (Q ++ bA)) W') := Lib.hid fun W Q T => by
  rw [HBS.out] at T ⊢
  exact rkeys_at T (Q.length + 1 + i) (atI1 hi) G hN x KS HKS.out
 refine regionL (E := [emptyR]) (base := bA) (Sep.putE S.out) ?_
 clear S
 refine qa ?_
 refine qc C0 ?_
 refine stepL (fun v E1 => ∃ (a_1_1 : Option Addr) (c_1_1 : Nat), v = .slice a_1_1 KS.length c_1_1 ∧ E1 = [valsR (.slice a_1_1 KS.length c_1_1) KS]) (h1 := fun Wx hSw => by (go_simp; refine symCallN ?_; exact (KI.out _ _ hSw).mono fun e W' ⟨a, c, e1, e2⟩ => ⟨_, _, e1, ⟨a, c, rfl, rfl⟩, e2.into 0 rfl⟩)) (h2 := fun v E1 hvE => ?_)
 obtain ⟨a_1_1, c_1_1, rfl, rfl⟩ := hvE; simp only [Act.put, pa]; try dsimp only [List.set]
 iterate 2 refine qa ?_
 refine doneL (h := fun w1 S => ?_)
 replace S := Lib.hid S
 go_wp2
 refine bodyPost_ret (v := .int .i64 KS.length) ?_ ?_ ?_
 ·
  simp [results, Tryz.results67, go_sem]
 ·
  rfl
 refine ⟨rfl, ?_⟩
 replace S := S.out
 rw [HBS.out] at S
 exact S.tail.tail
theorem rlen_ok (S : Sep w Rs W) (i : Nat) (hi : Rs[i]? = some (refR h H)) {N : Nat} (G : H.Good N) (hN : N ≤ 4000000) (x : V) (n : Nat) (hn : (H.items x).length = n) : Calls Tryz.prog 66 #[.pointer (some ⟨h, 0, none⟩), .agg #[.int .i64 x.kind, .int .i64 x.n, .string x.s]] W fun e W' => e = .returned (.int .i64 n) ∧ Sep w Rs W' := by
 obtain ⟨XS, hXS⟩ : ∃ l, H.items x = l := ⟨_, rfl⟩
 rw [hXS] at hn
 subst hn
 have HXS := Lib.hid hXS
 clear hXS
 obtain ⟨b, hb⟩ : ∃ gx_, (W.heap.size) = gx_ := ⟨_, rfl⟩
 replace S := (S.alloc (.cells #[.int .i64 x.kind, .int .i64 x.n, .string x.s] 24))
 simp only [World.size_alloc, hb] at S
 obtain ⟨bA, hbs⟩ : ∃ l, l = boxV b x :: Rs := ⟨_, rfl⟩
 have HBS := Lib.hid hbs
 replace S := enterP (w := w) (all := [boxV b x]) (E := []) (B := [boxV b x]) (Rs := Rs) S hbs (perm_of [0] (by show (List.range' 0 1).Perm [0]; decide) (by rfl))
 have C0 := baseC3 (w := w) (b := b) hbs 0 rfl
 clear hbs
 replace S := Lib.hid S
 go_enter Tryz.func66, Tryz.ntmps66
 go_upto_region 1 with fail
 try simp only [World.size_alloc, hb]
 clear hb
 have KI : Hid (∀ W (Q : List Res), Sep w (Q ++ bA) W → Calls Tryz.prog 61 #[.pointer (some ⟨h, 0, none⟩), .agg #[.int .i64 x.kind, .int .i64 x.n, .string x.s]] W fun e W' => ∃ a c, e = .returned (.slice a XS.length c) ∧ Sep w (valsR (.slice a XS.length c) XS :: (Q ++ bA)) W') := Lib.hid fun W Q T => by
  rw [HBS.out] at T ⊢
  exact ritems_at T (Q.length + 1 + i) (atI1 hi) G hN x XS HXS.out
 refine regionL (E := [emptyR]) (base := bA) (Sep.putE S.out) ?_
 clear S
 refine qa ?_
 refine qc C0 ?_
 refine stepL (fun v E1 => ∃ (a_1_1 : Option Addr) (c_1_1 : Nat), v = .slice a_1_1 XS.length c_1_1 ∧ E1 = [valsR (.slice a_1_1 XS.length c_1_1) XS]) (h1 := fun Wx hSw => by (go_simp; refine symCallN ?_; exact (KI.out _ _ hSw).mono fun e W' ⟨a, c, e1, e2⟩ => ⟨_, _, e1, ⟨a, c, rfl, rfl⟩, e2.into 0 rfl⟩)) (h2 := fun v E1 hvE => ?_)
 obtain ⟨a_1_1, c_1_1, rfl, rfl⟩ := hvE; simp only [Act.put, pa]; try dsimp only [List.set]
 iterate 2 refine qa ?_
 refine doneL (h := fun w1 S => ?_)
 replace S := Lib.hid S
 go_wp2
 refine bodyPost_ret (v := .int .i64 XS.length) ?_ ?_ ?_
 ·
  simp [results, Tryz.results66, go_sem]
 ·
  rfl
 refine ⟨rfl, ?_⟩
 replace S := S.out
 rw [HBS.out] at S
 exact S.tail.tail
theorem rpairs_ok (S : Sep w Rs W) (i : Nat) (hi : Rs[i]? = some (refR h H)) {N : Nat} (G : H.Good N) (hN : N ≤ 4000000) (g : Nat) (d : Int) (hd : 0 ≤ d ∧ d < 30) (IH : (∀ {Rs : List Res} {W : World} (S : Sep w Rs W) (i : Nat) (hi : Rs[i]? = some (refR h H)) (a c : V) (r : Option Bool) (hr : r = H.sameF g a c), Calls Tryz.prog 123 #[.pointer (some ⟨h, 0, none⟩), .agg #[.int .i64 a.kind, .int .i64 a.n, .string a.s], .agg #[.int .i64 c.kind, .int .i64 c.n, .string c.s], .int .i64 (d + 1)] W fun e W' => e = .returned (.tuple #[.bool (r.getD false), excN (nmS r)]) ∧ Sep w Rs W')) (x y : V) : Calls Tryz.prog 164 #[.pointer (some ⟨h, 0, none⟩), .agg #[.int .i64 x.kind, .int .i64 x.n, .string x.s], .agg #[.int .i64 y.kind, .int .i64 y.n, .string y.s], .int .i64 d] W fun e W' => e = .returned (.tuple #[.bool (Option.getD (allM (fun k : V => match H.get y k with | none => some false | some z => H.sameF g ((H.get x k).getD V.zero) z) ((H.pairs x).map (·.1))) false), excN (nmS (allM (fun k : V => match H.get y k with | none => some false | some z => H.sameF g ((H.get x k).getD V.zero) z) ((H.pairs x).map (·.1))))]) ∧ Sep w Rs W' := by
 obtain ⟨KS, hKS⟩ : ∃ KS, (H.pairs x).map (·.1) = KS := ⟨_, rfl⟩
 obtain ⟨p, hp⟩ : ∃ p : V → Option Bool, p = fun k : V => match H.get y k with | none => some false | some z => H.sameF g ((H.get x k).getD V.zero) z := ⟨_, rfl⟩
 obtain ⟨rr, hrr⟩ : ∃ r, r = allM (fun k : V => match H.get y k with | none => some false | some z => H.sameF g ((H.get x k).getD V.zero) z) ((H.pairs x).map (·.1)) := ⟨_, rfl⟩
 rw [← hrr]
 have PK : Hid (rr = allM p KS) := Lib.hid (by rw [hrr, hKS, hp])
 have P0 : Hid (∀ k, (H.get y k).isSome = false → p k = some false) := Lib.hid fun k hh => by
  cases e : H.get y k with
  | none => rw [hp]; simp only [e]
  | some z => rw [e] at hh; cases hh
 have P1 : Hid (∀ k, (H.get y k).isSome = true → p k = H.sameF g ((H.get x k).getD V.zero) ((H.get y k).getD V.zero)) := Lib.hid fun k hh => by
  cases e : H.get y k with
  | none => rw [e] at hh; cases hh
  | some z => rw [hp]; simp only [e, Option.getD_some]
 have HKS := Lib.hid hKS
 have HIH : Hid (∀ {Rs : List Res} {W : World} (S : Sep w Rs W) (i : Nat) (hi : Rs[i]? = some (refR h H)) (a c : V) (r : Option Bool) (hr : r = H.sameF g a c), Calls Tryz.prog 123 #[.pointer (some ⟨h, 0, none⟩), .agg #[.int .i64 a.kind, .int .i64 a.n, .string a.s], .agg #[.int .i64 c.kind, .int .i64 c.n, .string c.s], .int .i64 (d + 1)] W fun e W' => e = .returned (.tuple #[.bool (r.getD false), excN (nmS r)]) ∧ Sep w Rs W') := Lib.hid fun S i hi a c r hr => IH S i hi a c r hr
 have hwr : IntKind.i64.wrap (d + 1) = d + 1 := IntWalk.i64_in _ (by omega)
 clear hp hKS hrr IH hd
 obtain ⟨b, hb⟩ : ∃ gx_, (W.heap.size) = gx_ := ⟨_, rfl⟩
 replace S := (((S.alloc (.cells #[.int .i64 x.kind, .int .i64 x.n, .string x.s] 24)).alloc (.cells #[.int .i64 y.kind, .int .i64 y.n, .string y.s] 24)).alloc (.cells #[.string ⟨#[]⟩, .int .i64 0, .int .i64 0, .string ⟨#[]⟩, .bool false] 33))
 simp only [World.size_alloc, hb] at S
 obtain ⟨bA, hbs⟩ : ∃ l, l = boxV (b + 1) y :: boxV b x :: Rs := ⟨_, rfl⟩
 have HBS := Lib.hid hbs
 replace S := enterP (w := w) (all := [boxE (b + 1 + 1), boxV (b + 1) y, boxV b x]) (E := [boxE (b + 1 + 1)]) (B := [boxV (b + 1) y, boxV b x]) (Rs := Rs) S hbs (perm_of [0, 1, 2] (by show (List.range' 0 3).Perm [0, 1, 2]; decide) (by rfl))
 have C1 := baseC3 (w := w) (b := b + 1) hbs 0 rfl
 have C0 := baseC3 (w := w) (b := b) hbs 1 rfl
 clear hbs
 replace S := Lib.hid S
 go_enter Tryz.func164, Tryz.ntmps164
 go_upto_region 1 with fail
 try simp only [World.size_alloc, hb]
 clear hb
 have KI : Hid (∀ W (Q : List Res), Sep w (Q ++ bA) W → Calls Tryz.prog 71 #[.pointer (some ⟨h, 0, none⟩), .agg #[.int .i64 x.kind, .int .i64 x.n, .string x.s]] W fun e W' => ∃ a c, e = .returned (.slice a KS.length c) ∧ Sep w (valsR (.slice a KS.length c) KS :: (Q ++ bA)) W') := Lib.hid fun W Q T => by
  rw [HBS.out] at T ⊢
  exact rkeys_at T (Q.length + 2 + i) (atI2 hi) G hN x KS HKS.out
 refine regionL (E := [emptyR, boxE (b + 1 + 1)]) (base := bA) (Sep.putE S.out) ?_
 clear S
 refine qa ?_
 refine qc C0 ?_
 refine stepL (fun v E1 => ∃ (a_1_1 : Option Addr) (c_1_1 : Nat), v = .slice a_1_1 KS.length c_1_1 ∧ E1 = [valsR (.slice a_1_1 KS.length c_1_1) KS, boxE (b + 1 + 1)]) (h1 := fun Wx hSw => by (go_simp; refine symCallN ?_; exact (KI.out _ _ hSw).mono fun e W' ⟨a, c, e1, e2⟩ => ⟨_, _, e1, ⟨a, c, rfl, rfl⟩, e2.into 0 rfl⟩)) (h2 := fun v E1 hvE => ?_)
 obtain ⟨a_1_1, c_1_1, rfl, rfl⟩ := hvE; simp only [Act.put, pa]; try dsimp only [List.set]
 refine qa ?_
 refine doneL (h := fun w1 S => ?_)
 replace S := Lib.hid S
 clear KI
 have hkl : (KS.length : Int) ≤ 9223372036854775807 := by obtain ⟨_, _, e0, p1, p2, _⟩ := (S.out.row 0 rfl).sees'; cases e0; unfold maxLen at p2; omega
 obtain ⟨bK, hnb⟩ : ∃ l, l = [valsR (.slice a_1_1 KS.length c_1_1) KS] ++ bA := ⟨_, rfl⟩
 have HBbK := Lib.hid hnb
 replace S : Sep w ([boxE (b + 1 + 1)] ++ bK) w1 := by
  rw [hnb]
  refine S.out.perm ?_
  exact (show ([valsR (.slice a_1_1 KS.length c_1_1) KS, boxE (b + 1 + 1)] ++ bA).Perm ([boxE (b + 1 + 1)] ++ ([valsR (.slice a_1_1 KS.length c_1_1) KS] ++ bA)) from by rw [← List.append_assoc]; exact List.Perm.append_right bA (by exact perm_of [1, 0] (by show (List.range' 0 2).Perm [1, 0]; decide) (by rfl)))
 clear hnb
 replace S := Lib.hid S
 have C1_bK := liftC HBbK C1
 have C0_bK := liftC HBbK C0
 go_wp2
 go_loopw [11] (fun s11 wr => ∃ k : Nat, k ≤ KS.length ∧ s11 = .int .i64 k ∧ Hid (∀ q ∈ KS.take k, p q = some true) ∧ Sep w ([boxE (b + 1 + 1)] ++ bK) wr) (fun s11 _ => KS.length - (intOf s11).toNat)
 case atStart => exact ⟨0, Nat.zero_le _, rfl, Lib.hid (by simp), S.out⟩
 case round =>
  obtain ⟨k, hk, rfl, HA, S⟩ := hrel
  replace S := Lib.hid S
  by_cases hlt : k < KS.length
  ·
   have hlti : (k : Int) < KS.length := by omega
   obtain ⟨key, hkey⟩ : ∃ z, KS[k]? = some z := ⟨KS[k], by simp [hlt]⟩
   have T := S.out
   rw [HBbK.out] at T
   obtain ⟨g1, og, hag, -⟩ := ra_three (T.row 1 rfl).sees' hkey
   clear T
   subst hag
   obtain ⟨xv, hxv⟩ : ∃ v, (H.get x key).getD V.zero = v := ⟨_, rfl⟩
   obtain ⟨xr, hxr⟩ : ∃ v, (H.get x key).isSome = v := ⟨_, rfl⟩
   obtain ⟨yv, hyv⟩ : ∃ v, (H.get y key).getD V.zero = v := ⟨_, rfl⟩
   obtain ⟨yr, hyr⟩ : ∃ v, (H.get y key).isSome = v := ⟨_, rfl⟩
   obtain ⟨q, hq⟩ : ∃ q, q = H.sameF g xv yv := ⟨_, rfl⟩
   have HKEY := Lib.hid hkey
   have HLT := Lib.hid hlt
   have HXV := Lib.hid hxv
   have HXR := Lib.hid hxr
   have HYV := Lib.hid hyv
   have HYR := Lib.hid hyr
   have HQ := Lib.hid hq
   clear hkey hlt hxv hxr hyv hyr hq hk
   have CR : Hid (∀ W (Q : List Res), Sep w (Q ++ bK) W → W.cell? ⟨g1, og + k * 3, none⟩ = some (.int .i64 key.kind) ∧ W.cell? ⟨g1, og + k * 3 + 1, none⟩ = some (.int .i64 key.n) ∧ W.cell? ⟨g1, og + k * 3 + 2, none⟩ = some (.string key.s)) := Lib.hid fun W Q T => by
    rw [HBbK.out] at T
    exact raThree T (Q.length + 0) (atR rfl) HKEY.out
   have KG : QuietC w bA 81 #[hpV h, agV x, agV key] (.tuple #[.agg #[.int .i64 xv.kind, .int .i64 xv.n, .string xv.s], .bool xr]) := Lib.hid fun W Q T => by
    rw [HBS.out] at T ⊢
    exact rget_at T (Q.length + 2 + i) (atI2 hi) x key xv xr HXV.out HXR.out
   replace KG := (liftK HBbK KG)
   go_upto_region 5 with fail
   refine regionP 10 3 (E := [emptyR, boxE (b + 1 + 1)]) (base := bK) (Sep.putE S.out) ?_
   clear S
   refine qp ?_
   refine qpc C0_bK ?_
   iterate 3 refine qp ?_
   refine qpc CR ?_
   refine qpk KG ?_
   iterate 3 refine qp ?_
   refine endP ?_
   refine readyS [10] ?_
   refine allocS 0 rfl (fun q => .pointer (some ⟨q, 0, none⟩)) (.cells #[.int .i64 0, .int .i64 0, .string ⟨#[]⟩] 24) (h1 := fun Wx => by go_simp) (h2 := fun qz121 => ?_) (hs := nilS); simp only [Act.put, pa]; try dsimp only [List.set]
   try simp only [List.set_cons_zero, List.set_cons_succ]
   refine readyS [11] ?_
   refine detS undef [boxV qz121 xv, boxE (b + 1 + 1)] (h1 := fun Wx hSw => by (have hz := hSw.box (b := qz121) (o := objZ) 0 rfl; refine useZ3 hz fun z0 z1 z2 y0 y1 y2 => ?_; go_simp; exact ⟨rfl, hSw.set3 0 rfl (.int .i64 xv.kind) (.int .i64 xv.n) (.string xv.s)⟩)) (h2 := ?_) (hs := nilS); simp only [Act.put, pa]; try dsimp only [List.set]
   refine qs 12 ?_
   refine doneS (h := fun w2 S => ?_)
   replace S := Lib.hid S
   have KH : QuietC w bA 81 #[hpV h, agV y, agV key] (.tuple #[.agg #[.int .i64 yv.kind, .int .i64 yv.n, .string yv.s], .bool yr]) := Lib.hid fun W Q T => by
    rw [HBS.out] at T ⊢
    exact rget_at T (Q.length + 2 + i) (atI2 hi) y key yv yr HYV.out HYR.out
   replace KH := (liftK HBbK KH)
   go_upto_region 6 with fail
   refine regionP 10 3 (E := [emptyR, boxV qz121 xv, boxE (b + 1 + 1)]) (base := bK) (Sep.putE S.out) ?_
   clear S
   refine qp ?_
   refine qpc C1_bK ?_
   iterate 3 refine qp ?_
   refine qpc CR ?_
   refine qpk KH ?_
   iterate 3 refine qp ?_
   refine endP ?_
   refine readyS [10] ?_
   refine allocS 0 rfl (fun q => .pointer (some ⟨q, 0, none⟩)) (.cells #[.int .i64 0, .int .i64 0, .string ⟨#[]⟩] 24) (h1 := fun Wx => by go_simp) (h2 := fun qz141 => ?_) (hs := nilS); simp only [Act.put, pa]; try dsimp only [List.set]
   try simp only [List.set_cons_zero, List.set_cons_succ]
   refine readyS [11] ?_
   refine detS undef [boxV qz141 yv, boxV qz121 xv, boxE (b + 1 + 1)] (h1 := fun Wx hSw => by (have hz := hSw.box (b := qz141) (o := objZ) 0 rfl; refine useZ3 hz fun z0 z1 z2 y0 y1 y2 => ?_; go_simp; exact ⟨rfl, hSw.set3 0 rfl (.int .i64 yv.kind) (.int .i64 yv.n) (.string yv.s)⟩)) (h2 := ?_) (hs := nilS); simp only [Act.put, pa]; try dsimp only [List.set]
   refine qs 12 ?_
   refine doneS (h := fun w3 S => ?_)
   replace S := Lib.hid S
   clear KG KH
   cases yr with
   | false =>
    have hv : rr = some false := by have e := P0.out key HYR.out; rw [PK.out, ra_stop HKEY.out HA.out (by rw [e]; simp), e]
    subst hv
    go_upto_region 8 with fail
    refine regionL (E := [boxV qz141 yv, boxV qz121 xv, boxE (b + 1 + 1)]) (base := bK) S.out ?_
    clear S
    iterate 2 refine qa ?_
    refine qd undef [boxV qz141 yv, boxV qz121 xv, boxE (b + 1 + 1)] (h1 := fun Wx hSw => by (have hz := hSw.box (b := (b + 1 + 1)) (o := objE) 2 rfl; refine useZ5 hz fun z0 z1 z2 z3 z4 y0 y1 y2 y3 y4 => ?_; go_simp; exact ⟨rfl, hSw.set5 2 rfl (.string ⟨#[]⟩) (.int .i64 0) (.int .i64 0) (.string ⟨#[]⟩) (.bool false)⟩)) (h2 := ?_)
    refine doneL (h := fun w4 S => ?_)
    refine useR5 (S.box (b := b + 1 + 1) (o := objE) 2 rfl) fun r0 r1 r2 r3 r4 => ?_
    replace S := Lib.hid S
    repeat (first | go_values | go_skip | go_guarded | go_step)
    refine bodyPost_ret (v := .tuple #[.bool false, excN ⟨#[]⟩]) ?_ ?_ ?_
    ·
     simp [results, Tryz.results164, go_sem, r0, r1, r2, r3, r4]
    ·
     rfl
    refine ⟨rfl, ?_⟩
    replace S := S.out
    rw [HBbK.out] at S
    rw [HBS.out] at S
    exact S.tail.tail.tail.tail.tail.tail
   | true =>
    have HP1 : Hid (p key = H.sameF g xv yv) := Lib.hid (by rw [P1.out key HYR.out, HXV.out, HYV.out])
    obtain ⟨by_, hnb⟩ : ∃ l, l = [boxV qz121 xv, boxV qz141 yv] ++ bK := ⟨_, rfl⟩
    have HBby_ := Lib.hid hnb
    replace S : Sep w ([boxE (b + 1 + 1)] ++ by_) w3 := by
     rw [hnb]
     refine S.out.perm ?_
     exact (show ([boxV qz141 yv, boxV qz121 xv, boxE (b + 1 + 1)] ++ bK).Perm ([boxE (b + 1 + 1)] ++ ([boxV qz121 xv, boxV qz141 yv] ++ bK)) from by rw [← List.append_assoc]; exact List.Perm.append_right bK (by exact perm_of [2, 1, 0] (by show (List.range' 0 3).Perm [2, 1, 0]; decide) (by rfl)))
    clear hnb
    replace S := Lib.hid S
    have C1_by_ := liftC HBby_ C1_bK
    have C0_by_ := liftC HBby_ C0_bK
    have CR_by_ := liftC HBby_ CR
    have Cz12_by_ := baseC3 (w := w) (b := qz121) HBby_.out 0 rfl
    have Cz14_by_ := baseC3 (w := w) (b := qz141) HBby_.out 1 rfl
    obtain ⟨bq, hbq⟩ : ∃ b, b = q.getD false := ⟨_, rfl⟩
    obtain ⟨nq, hnq⟩ : ∃ n, n = nmS q := ⟨_, rfl⟩
    have HBQ := Lib.hid hbq
    have HNQ := Lib.hid hnq
    clear hbq hnq
    have KS_ : QuietC w bA 123 #[hpV h, agV xv, agV yv, .int .i64 (d + 1)] (.tuple #[.bool bq, excN nq]) := Lib.hid fun W Q T => by
     rw [HBS.out] at T ⊢
     exact (by have hh := HIH.out T (Q.length + 2 + i) (atI2 hi) xv yv q HQ.out; rw [← HBQ.out, ← HNQ.out] at hh; exact hh)
    replace KS_ := (liftK HBby_ (liftK HBbK KS_))
    go_upto_region 9 with fail
    refine regionL (E := [emptyR, boxE (b + 1 + 1)]) (base := by_) (Sep.putE S.out) ?_
    clear S
    refine qa ?_
    refine qc Cz12_by_ ?_
    refine qc Cz14_by_ ?_
    iterate 2 refine qa ?_
    refine qk KS_ ?_
    iterate 3 refine qa ?_
    refine allocL 0 rfl (fun q => .pointer (some ⟨q, 0, none⟩)) (.cells #[.string ⟨#[]⟩, .int .i64 0, .int .i64 0, .string ⟨#[]⟩, .bool false] 33) (h1 := fun Wx => by go_simp) (h2 := fun qe171 => ?_); simp only [Act.put, pa]; try dsimp only [List.set]
    try simp only [List.set_cons_zero, List.set_cons_succ]
    refine qa ?_
    refine qd undef [boxN qe171 nq, boxE (b + 1 + 1)] (h1 := fun Wx hSw => by (have hz := hSw.box (b := qe171) (o := objE) 0 rfl; refine useZ5 hz fun z0 z1 z2 z3 z4 y0 y1 y2 y3 y4 => ?_; go_simp; exact ⟨rfl, hSw.set5 0 rfl (.string nq) (.int .i64 0) (.int .i64 0) (.string ⟨#[]⟩) (.bool false)⟩)) (h2 := ?_)
    refine doneL (h := fun w5 S => ?_)
    replace S := Lib.hid S
    match q, HQ, HBQ, HNQ with
    | some true, HQ, HBQ, HNQ =>
     obtain rfl : bq = true := HBQ.out
     obtain rfl : nq = ⟨#[]⟩ := HNQ.out
     clear HBQ HNQ
     go_upto_region 10 with fail
     refine regionL (E := [boxE qe171, boxE (b + 1 + 1)]) (base := by_) S.out ?_
     clear S
     refine qd _ [boxE qe171, boxE (b + 1 + 1)] (h1 := fun Wx hSw => by (have hz := hSw.box (b := qe171) (o := objE) 0 rfl; have z0 := cellAt hz 0 (v := .string ⟨#[]⟩) rfl; have z1 := cellAt hz 1 (v := .int .i64 0) rfl; have z2 := cellAt hz 2 (v := .int .i64 0) rfl; have z3 := cellAt hz 3 (v := .string ⟨#[]⟩) rfl; have z4 := cellAt hz 4 (v := .bool false) rfl; go_simp; exact ⟨rfl, hSw⟩)) (h2 := ?_)
     iterate 6 refine qa ?_
     refine doneL (h := fun w6 S => ?_)
     replace S := Lib.hid S
     have hi1 : IntKind.i64.wrap ((k : Int) + 1) = (k : Int) + 1 := IntWalk.i64_in _ (by omega)
     replace S := S.out
     rw [HBby_.out] at S
     replace S := Lib.hid (S.sub (Qs := [boxE (b + 1 + 1)] ++ bK) (List.Sublist.cons _ (List.Sublist.cons_cons _ (List.Sublist.cons _ (List.Sublist.cons _ (List.Sublist.refl _))))))
     go_wp2
     exact ⟨⟨k + 1, HLT.out, by go_num, Lib.hid (ra_snoc HKEY.out HA.out (by rw [HP1.out]; exact HQ.out.symm)), S.out⟩, by have := HLT.out; simp [intOf]; omega⟩
    | some false, HQ, HBQ, HNQ =>
     obtain rfl : bq = false := HBQ.out
     obtain rfl : nq = ⟨#[]⟩ := HNQ.out
     clear HBQ HNQ
     go_upto_region 10 with fail
     refine regionL (E := [boxE qe171, boxE (b + 1 + 1)]) (base := by_) S.out ?_
     clear S
     refine qd _ [boxE qe171, boxE (b + 1 + 1)] (h1 := fun Wx hSw => by (have hz := hSw.box (b := qe171) (o := objE) 0 rfl; have z0 := cellAt hz 0 (v := .string ⟨#[]⟩) rfl; have z1 := cellAt hz 1 (v := .int .i64 0) rfl; have z2 := cellAt hz 2 (v := .int .i64 0) rfl; have z3 := cellAt hz 3 (v := .string ⟨#[]⟩) rfl; have z4 := cellAt hz 4 (v := .bool false) rfl; go_simp; exact ⟨rfl, hSw⟩)) (h2 := ?_)
     iterate 6 refine qa ?_
     refine doneL (h := fun w7 S => ?_)
     replace S := Lib.hid S
     have hv : rr = some false := by rw [PK.out, ra_stop HKEY.out HA.out (by rw [HP1.out, ← HQ.out]; simp), HP1.out, ← HQ.out]
     subst hv
     go_upto_region 11 with fail
     refine regionS (E := [boxE qe171, boxE (b + 1 + 1)]) (base := by_) S.out ?_
     clear S
     refine qs 1 ?_
     refine readyS [0] ?_
     refine detS _ [boxE qe171, boxE (b + 1 + 1)] (h1 := fun Wx hSw => by (have hz := hSw.box (b := qe171) (o := objE) 0 rfl; have z0 := cellAt hz 0 (v := .string ⟨#[]⟩) rfl; have z1 := cellAt hz 1 (v := .int .i64 0) rfl; have z2 := cellAt hz 2 (v := .int .i64 0) rfl; have z3 := cellAt hz 3 (v := .string ⟨#[]⟩) rfl; have z4 := cellAt hz 4 (v := .bool false) rfl; go_simp; exact ⟨rfl, hSw⟩)) (h2 := ?_) (hs := nilS); simp only [Act.put, pa]; try dsimp only [List.set]
     refine readyS [2] ?_
     refine detS undef [boxE qe171, boxE (b + 1 + 1)] (h1 := fun Wx hSw => by (have hz := hSw.box (b := (b + 1 + 1)) (o := objE) 1 rfl; refine useZ5 hz fun z0 z1 z2 z3 z4 y0 y1 y2 y3 y4 => ?_; go_simp; exact ⟨rfl, hSw.set5 1 rfl (.string ⟨#[]⟩) (.int .i64 0) (.int .i64 0) (.string ⟨#[]⟩) (.bool false)⟩)) (h2 := ?_) (hs := nilS); simp only [Act.put, pa]; try dsimp only [List.set]
     refine doneS (h := fun w8 S => ?_)
     refine useR5 (S.box (b := b + 1 + 1) (o := objE) 1 rfl) fun r0 r1 r2 r3 r4 => ?_
     replace S := Lib.hid S
     repeat (first | go_values | go_skip | go_guarded | go_step)
     refine bodyPost_ret (v := .tuple #[.bool false, excN ⟨#[]⟩]) ?_ ?_ ?_
     ·
      simp [results, Tryz.results164, go_sem, r0, r1, r2, r3, r4]
     ·
      rfl
     refine ⟨rfl, ?_⟩
     replace S := S.out
     rw [HBby_.out] at S
     rw [HBbK.out] at S
     rw [HBS.out] at S
     exact S.tail.tail.tail.tail.tail.tail.tail
    | none, HQ, HBQ, HNQ =>
     obtain rfl : bq = false := HBQ.out
     obtain rfl : nq = recursionError := HNQ.out
     clear HBQ HNQ
     go_upto_region 10 with fail
     refine regionL (E := [boxN qe171 recursionError, boxE (b + 1 + 1)]) (base := by_) S.out ?_
     clear S
     refine qd _ [boxN qe171 recursionError, boxE (b + 1 + 1)] (h1 := fun Wx hSw => by (have hz := hSw.box (b := qe171) (o := objN recursionError) 0 rfl; have z0 := cellAt hz 0 (v := .string recursionError) rfl; have z1 := cellAt hz 1 (v := .int .i64 0) rfl; have z2 := cellAt hz 2 (v := .int .i64 0) rfl; have z3 := cellAt hz 3 (v := .string ⟨#[]⟩) rfl; have z4 := cellAt hz 4 (v := .bool false) rfl; go_simp; exact ⟨rfl, hSw⟩)) (h2 := ?_)
     iterate 3 refine qa ?_
     iterate 2 refine qz ?_
     refine qa ?_
     refine doneL (h := fun w9 S => ?_)
     replace S := Lib.hid S
     have hv : rr = none := by rw [PK.out, ra_stop HKEY.out HA.out (by rw [HP1.out, ← HQ.out]; simp), HP1.out, ← HQ.out]
     subst hv
     go_upto_region 11 with fail
     refine regionS (E := [boxN qe171 recursionError, boxE (b + 1 + 1)]) (base := by_) S.out ?_
     clear S
     refine qs 1 ?_
     refine readyS [0] ?_
     refine detS _ [boxN qe171 recursionError, boxE (b + 1 + 1)] (h1 := fun Wx hSw => by (have hz := hSw.box (b := qe171) (o := objN recursionError) 0 rfl; have z0 := cellAt hz 0 (v := .string recursionError) rfl; have z1 := cellAt hz 1 (v := .int .i64 0) rfl; have z2 := cellAt hz 2 (v := .int .i64 0) rfl; have z3 := cellAt hz 3 (v := .string ⟨#[]⟩) rfl; have z4 := cellAt hz 4 (v := .bool false) rfl; go_simp; exact ⟨rfl, hSw⟩)) (h2 := ?_) (hs := nilS); simp only [Act.put, pa]; try dsimp only [List.set]
     refine readyS [2] ?_
     refine detS undef [boxN qe171 recursionError, boxN (b + 1 + 1) recursionError] (h1 := fun Wx hSw => by (have hz := hSw.box (b := (b + 1 + 1)) (o := objE) 1 rfl; refine useZ5 hz fun z0 z1 z2 z3 z4 y0 y1 y2 y3 y4 => ?_; go_simp; exact ⟨rfl, hSw.set5 1 rfl (.string recursionError) (.int .i64 0) (.int .i64 0) (.string ⟨#[]⟩) (.bool false)⟩)) (h2 := ?_) (hs := nilS); simp only [Act.put, pa]; try dsimp only [List.set]
     refine doneS (h := fun w10 S => ?_)
     refine useR5 (S.box (b := b + 1 + 1) (o := objN recursionError) 1 rfl) fun r0 r1 r2 r3 r4 => ?_
     replace S := Lib.hid S
     repeat (first | go_values | go_skip | go_guarded | go_step)
     refine bodyPost_ret (v := .tuple #[.bool false, excN recursionError]) ?_ ?_ ?_
     ·
      simp [results, Tryz.results164, go_sem, r0, r1, r2, r3, r4]
     ·
      rfl
     refine ⟨rfl, ?_⟩
     replace S := S.out
     rw [HBby_.out] at S
     rw [HBbK.out] at S
     rw [HBS.out] at S
     exact S.tail.tail.tail.tail.tail.tail.tail
  ·
   obtain rfl : k = KS.length := by omega
   have hno : ¬ ((KS.length : Int) < KS.length) := by omega
   have hv : rr = some true := by rw [PK.out]; exact allM_true.2 (by have := HA.out; rwa [List.take_length] at this)
   subst hv
   clear hlt hk HA
   go_upto_region 12 with fail
   refine regionL (E := [boxE (b + 1 + 1)]) (base := bK) S.out ?_
   clear S
   iterate 2 refine qa ?_
   refine qd undef [boxE (b + 1 + 1)] (h1 := fun Wx hSw => by (have hz := hSw.box (b := (b + 1 + 1)) (o := objE) 0 rfl; refine useZ5 hz fun z0 z1 z2 z3 z4 y0 y1 y2 y3 y4 => ?_; go_simp; exact ⟨rfl, hSw.set5 0 rfl (.string ⟨#[]⟩) (.int .i64 0) (.int .i64 0) (.string ⟨#[]⟩) (.bool false)⟩)) (h2 := ?_)
   refine doneL (h := fun w11 S => ?_)
   refine useR5 (S.box (b := b + 1 + 1) (o := objE) 0 rfl) fun r0 r1 r2 r3 r4 => ?_
   replace S := Lib.hid S
   repeat (first | go_values | go_skip | go_guarded | go_step)
   refine bodyPost_ret (v := .tuple #[.bool true, excN ⟨#[]⟩]) ?_ ?_ ?_
   ·
    simp [results, Tryz.results164, go_sem, r0, r1, r2, r3, r4]
   ·
    rfl
   refine ⟨rfl, ?_⟩
   replace S := S.out
   rw [HBbK.out] at S
   rw [HBS.out] at S
   exact S.tail.tail.tail.tail
theorem rsame_ok {N : Nat} (G : H.Good N) (hN : N ≤ 4000000) : ∀ (f : Nat) {Rs : List Res} {W : World} (S : Sep w Rs W) (i : Nat) (hi : Rs[i]? = some (refR h H)) (x y : V) (d : Int) (hd : d + f = 30) (hd0 : 0 ≤ d),
  Calls Tryz.prog 123 #[.pointer (some ⟨h, 0, none⟩), .agg #[.int .i64 x.kind, .int .i64 x.n, .string x.s], .agg #[.int .i64 y.kind, .int .i64 y.n, .string y.s], .int .i64 d] W fun e W' => e = .returned (.tuple #[.bool ((H.sameF f x y).getD false), excN (nmS (H.sameF f x y))]) ∧ Sep w Rs W' := by
 intro f
 induction f using Nat.strongRecOn with | _ f IH
 intro Rs W S i hi x y d hd hd0
 obtain ⟨Z, hZ, hZ0, hZ1⟩ : ∃ Z, H.sameF f x y = H.sameT x y Z ∧ (f = 0 → Z = none) ∧ (∀ g, f = g + 1 → Z = if H.kind x = 3 then allM (fun k : V => match H.get y k with | none => some false | some z => H.sameF g ((H.get x k).getD V.zero) z) ((H.pairs x).map (·.1)) else allM (fun p : V × V => H.sameF g p.1 p.2) ((H.items x).zip (H.items y))) := by
  cases f with
  | zero => exact ⟨none, rfl, fun _ => rfl, fun g hg => by omega⟩
  | succ g => exact ⟨_, rfl, fun h0 => by omega, fun g' hg => by obtain rfl : g = g' := by omega
                                                                 rfl⟩
 obtain ⟨rr, hrr⟩ : ∃ r, r = H.sameF f x y := ⟨_, rfl⟩
 rw [← hrr]
 rw [hZ, sameT_ref] at hrr
 obtain ⟨r2, hr2⟩ : ∃ r, H.wholeB x = r := ⟨_, rfl⟩
 obtain ⟨kx, hkx⟩ : ∃ k, H.kind x = k := ⟨_, rfl⟩
 obtain ⟨ky, hky⟩ : ∃ k, H.kind y = k := ⟨_, rfl⟩
 obtain ⟨nx, hnx⟩ : ∃ k, H.sizeB x = k := ⟨_, rfl⟩
 obtain ⟨ny, hny⟩ : ∃ k, H.sizeB y = k := ⟨_, rfl⟩
 obtain ⟨dxy, hdxy⟩ : ∃ k, decide (x = y) = k := ⟨_, rfl⟩
 obtain ⟨rk, hrk⟩ : ∃ k, (if H.rowB x = true then H.kind x else 0) = k := ⟨_, rfl⟩
 have hw : r2 = (decide (rk ≠ 0) || decide (kx = 3)) := by
  rw [← hr2, ← hrk, ← hkx]; unfold HeapM.wholeB
  by_cases e : H.rowB x = true
  ·
   have h0 : H.kind x ≠ 0 := by have := kind_rowB.1 e; omega
   rw [if_pos e, e]; simp [h0]
  ·
   have e' : H.rowB x = false := by simpa using e
   rw [if_neg e, e']; simp
 rw [hkx, hky, hr2, hnx, hny, hdxy] at hrr
 have HRR := Lib.hid hrr
 have HW := Lib.hid hw
 have HRK := Lib.hid hrk
 have HKX := Lib.hid hkx
 have HKY := Lib.hid hky
 have HNX := Lib.hid hnx
 have HNY := Lib.hid hny
 have HD := Lib.hid hdxy
 have HZ0 := Lib.hid hZ0
 have HZ1 := Lib.hid hZ1
 have HD1 := Lib.hid (And.intro hd hd0)
 have HIH : Hid (∀ (g : Nat), g < f → ∀ {Rs : List Res} {W : World} (S : Sep w Rs W) (i : Nat) (hi : Rs[i]? = some (refR h H)) (a c : V) (r : Option Bool) (hr : r = H.sameF g a c) (d : Int) (hd : d + g = 30) (hd0 : 0 ≤ d), Calls Tryz.prog 123 #[.pointer (some ⟨h, 0, none⟩), .agg #[.int .i64 a.kind, .int .i64 a.n, .string a.s], .agg #[.int .i64 c.kind, .int .i64 c.n, .string c.s], .int .i64 d] W fun e W' => e = .returned (.tuple #[.bool (r.getD false), excN (nmS r)]) ∧ Sep w Rs W') := Lib.hid fun g hg {Rs W} S i hi a c r hr d hd hd0 => by
  subst hr; exact IH g hg S i hi a c d hd hd0
 clear hrr hZ hZ0 hZ1 hr2 hkx hky hnx hny hdxy hd hd0 IH hw hrk
 obtain ⟨b, hb⟩ : ∃ gx_, (W.heap.size) = gx_ := ⟨_, rfl⟩
 replace S := (((S.alloc (.cells #[.int .i64 x.kind, .int .i64 x.n, .string x.s] 24)).alloc (.cells #[.int .i64 y.kind, .int .i64 y.n, .string y.s] 24)).alloc (.cells #[.string ⟨#[]⟩, .int .i64 0, .int .i64 0, .string ⟨#[]⟩, .bool false] 33))
 simp only [World.size_alloc, hb] at S
 obtain ⟨bA, hbs⟩ : ∃ l, l = boxV (b + 1) y :: boxV b x :: Rs := ⟨_, rfl⟩
 have HBS := Lib.hid hbs
 replace S := enterP (w := w) (all := [boxE (b + 1 + 1), boxV (b + 1) y, boxV b x]) (E := [boxE (b + 1 + 1)]) (B := [boxV (b + 1) y, boxV b x]) (Rs := Rs) S hbs (perm_of [0, 1, 2] (by show (List.range' 0 3).Perm [0, 1, 2]; decide) (by rfl))
 have C1 := baseC3 (w := w) (b := b + 1) hbs 0 rfl
 have C0 := baseC3 (w := w) (b := b) hbs 1 rfl
 clear hbs
 replace S := Lib.hid S
 go_enter Tryz.func123, Tryz.ntmps123
 go_upto_region 1 with fail
 try simp only [World.size_alloc, hb]
 clear hb
 have KX : QuietC w bA 60 #[hpV h, agV x] (.int .i64 kx) := Lib.hid fun W Q T => by
  rw [HBS.out] at T ⊢
  exact rkind_at T (Q.length + 2 + i) (atI2 hi) x kx HKX.out
 have KY : QuietC w bA 60 #[hpV h, agV y] (.int .i64 ky) := Lib.hid fun W Q T => by
  rw [HBS.out] at T ⊢
  exact rkind_at T (Q.length + 2 + i) (atI2 hi) y ky HKY.out
 refine regionL (E := [boxE (b + 1 + 1)]) (base := bA) S.out ?_
 clear S
 refine qa ?_
 refine qc C0 ?_
 refine qk KX ?_
 refine qa ?_
 refine doneL (h := fun w1 S => ?_)
 replace S := Lib.hid S
 obtain ⟨c, hc⟩ : ∃ c, c = decide (kx = 0 ∨ ky ≠ kx) := ⟨_, rfl⟩
 have HC := Lib.hid hc
 clear hc
 go_upto_region 2 with fail
 go_cut [28] (fun s28 wx => s28 = .bool c ∧ Sep w ([boxE (b + 1 + 1)] ++ bA) wx)
 case first =>
  by_cases hk : kx = 0
  ·
   obtain rfl : c = true := by rw [HC.out]; exact decide_eq_true (.inl hk)
   subst hk
   refine regionL (E := [boxE (b + 1 + 1)]) (base := bA) S.out ?_
   clear S
   iterate 3 refine qa ?_
   iterate 5 refine qz ?_
   refine qa ?_
   refine doneL (h := fun w2 S => ?_)
   replace S := Lib.hid S
   go_wp2_with fail
   go_meet
   exact ⟨rfl, S.out⟩
  ·
   have hk0 : (kx == 0) = false := by simp [hk]
   obtain rfl : c = (ky != kx) := by rw [HC.out]; by_cases e : ky = kx <;> simp [hk, e]
   clear hk
   refine regionL (E := [boxE (b + 1 + 1)]) (base := bA) S.out ?_
   clear S
   iterate 4 refine qa ?_
   refine qc C1 ?_
   refine qk KY ?_
   iterate 3 refine qa ?_
   refine doneL (h := fun w3 S => ?_)
   replace S := Lib.hid S
   go_wp2_with fail
   go_meet
   exact ⟨rfl, S.out⟩
 case rest =>
  obtain ⟨rfl, S⟩ := hcut
  replace S := Lib.hid S
  clear KY
  cases c with
  | true =>
   have hv : rr = some dxy := by have e1 := HRR.out; rwa [if_pos (of_decide_eq_true HC.out.symm)] at e1
   subst hv
   go_upto_region 3 with fail
   go_cut [8] (fun s8 wx => s8 = .bool dxy ∧ Sep w ([boxE (b + 1 + 1)] ++ bA) wx)
   case first =>
    by_cases h1 : ¬ x.kind = y.kind
    ·
     have e1 : (x.kind == y.kind) = false := by simpa using h1
     obtain rfl : dxy = false := by rw [← HD.out]; exact decide_eq_false fun e => h1 (by rw [e])
     clear h1
     refine regionL (E := [boxE (b + 1 + 1)]) (base := bA) S.out ?_
     clear S
     refine qa ?_
     refine qc C0 ?_
     refine qa ?_
     refine qc C1 ?_
     iterate 2 refine qa ?_
     iterate 5 refine qz ?_
     iterate 2 refine qa ?_
     iterate 5 refine qz ?_
     iterate 3 refine qa ?_
     refine qd undef [boxE (b + 1 + 1)] (h1 := fun Wx hSw => by (have hz := hSw.box (b := (b + 1 + 1)) (o := objE) 0 rfl; refine useZ5 hz fun z0 z1 z2 z3 z4 y0 y1 y2 y3 y4 => ?_; go_simp; exact ⟨rfl, hSw.set5 0 rfl (.string ⟨#[]⟩) (.int .i64 0) (.int .i64 0) (.string ⟨#[]⟩) (.bool false)⟩)) (h2 := ?_)
     refine doneL (h := fun w4 S => ?_)
     replace S := Lib.hid S
     go_wp2_with fail
     go_meet
     exact ⟨rfl, S.out⟩
    ·
     by_cases h2 : ¬ x.n = y.n
     ·
      have e1 : (x.kind == y.kind) = true := by simpa using h1
      have e2 : (x.n == y.n) = false := by simpa using h2
      obtain rfl : dxy = false := by rw [← HD.out]; exact decide_eq_false fun e => h2 (by rw [e])
      clear h1 h2
      refine regionL (E := [boxE (b + 1 + 1)]) (base := bA) S.out ?_
      clear S
      refine qa ?_
      refine qc C0 ?_
      refine qa ?_
      refine qc C1 ?_
      iterate 3 refine qa ?_
      refine qc C0 ?_
      refine qa ?_
      refine qc C1 ?_
      iterate 3 refine qa ?_
      iterate 5 refine qz ?_
      iterate 3 refine qa ?_
      refine qd undef [boxE (b + 1 + 1)] (h1 := fun Wx hSw => by (have hz := hSw.box (b := (b + 1 + 1)) (o := objE) 0 rfl; refine useZ5 hz fun z0 z1 z2 z3 z4 y0 y1 y2 y3 y4 => ?_; go_simp; exact ⟨rfl, hSw.set5 0 rfl (.string ⟨#[]⟩) (.int .i64 0) (.int .i64 0) (.string ⟨#[]⟩) (.bool false)⟩)) (h2 := ?_)
      refine doneL (h := fun w5 S => ?_)
      replace S := Lib.hid S
      go_wp2_with fail
      go_meet
      exact ⟨rfl, S.out⟩
     ·
      ·
       have e1 : (x.kind == y.kind) = true := by simpa using h1
       have e2 : (x.n == y.n) = true := by simpa using h2
       have e3 : (x.s.toList == y.s.toList) = dxy := by rw [← HD.out]; exact ra_eq (by simpa using h1) (by simpa using h2)
       have H12_ := Lib.hid (And.intro e1 (And.intro e2 e3))
       clear h1 h2 e1 e2 e3
       refine regionL (E := [boxE (b + 1 + 1)]) (base := bA) S.out ?_
       clear S
       refine qa ?_
       refine qc C0 ?_
       refine qa ?_
       refine qc C1 ?_
       refine qa (v := .bool true) (hy := fun E Wx hSw => by (go_simp; rw [H12_.out.1]; exact ⟨rfl, hSw⟩)) (h := ?_)
       iterate 2 refine qa ?_
       refine qc C0 ?_
       refine qa ?_
       refine qc C1 ?_
       refine qa (v := .bool true) (hy := fun E Wx hSw => by (go_simp; rw [H12_.out.2.1]; exact ⟨rfl, hSw⟩)) (h := ?_)
       iterate 3 refine qa ?_
       refine qc C0 ?_
       refine qa ?_
       refine qc C1 ?_
       refine qa (v := .bool dxy) (hy := fun E Wx hSw => by (go_simp; rw [H12_.out.2.2]; exact ⟨rfl, hSw⟩)) (h := ?_)
       iterate 3 refine qa ?_
       refine qd undef [boxE (b + 1 + 1)] (h1 := fun Wx hSw => by (have hz := hSw.box (b := (b + 1 + 1)) (o := objE) 0 rfl; refine useZ5 hz fun z0 z1 z2 z3 z4 y0 y1 y2 y3 y4 => ?_; go_simp; exact ⟨rfl, hSw.set5 0 rfl (.string ⟨#[]⟩) (.int .i64 0) (.int .i64 0) (.string ⟨#[]⟩) (.bool false)⟩)) (h2 := ?_)
       refine doneL (h := fun w6 S => ?_)
       replace S := Lib.hid S
       go_wp2_with fail
       go_meet
       exact ⟨rfl, S.out⟩
   case rest =>
    obtain ⟨rfl, S⟩ := hcut
    refine useR5 (S.box (b := b + 1 + 1) (o := objE) 0 rfl) fun r0 r1 r2 r3 r4 => ?_
    replace S := Lib.hid S
    repeat (first | go_values | go_skip | go_guarded | go_step)
    refine bodyPost_ret (v := .tuple #[.bool dxy, excN ⟨#[]⟩]) ?_ ?_ ?_
    ·
     simp [results, Tryz.results123, go_sem, r0, r1, r2, r3, r4]
    ·
     rfl
    refine ⟨rfl, ?_⟩
    replace S := S.out
    rw [HBS.out] at S
    exact S.tail.tail.tail
  | false =>
   have hk := of_decide_eq_false HC.out.symm
   have hk0 : kx ≠ 0 := fun e => hk (.inl e)
   obtain rfl : ky = kx := Classical.byContradiction fun e => hk (.inr e)
   have HR2 : Hid (rr = if x.n = y.n then some true else if r2 = false then some false else if nx ≠ ny then some false else Z) := Lib.hid (by have e1 := HRR.out; rwa [if_neg hk] at e1)
   clear HRR HC HD hk KX hk0
   by_cases hn : x.n = y.n
   ·
    have e1 : (x.n == y.n) = true := by simpa using hn
    have hv : rr = some true := by have e1 := HR2.out; rwa [if_pos hn] at e1
    subst hv
    have HN1 := Lib.hid e1
    clear hn e1
    go_upto_region 4 with fail
    refine regionL (E := [boxE (b + 1 + 1)]) (base := bA) S.out ?_
    clear S
    refine qa ?_
    refine qc C0 ?_
    refine qa ?_
    refine qc C1 ?_
    refine qa (v := .bool true) (hy := fun E Wx hSw => by (go_simp; rw [HN1.out]; exact ⟨rfl, hSw⟩)) (h := ?_)
    refine doneL (h := fun w7 S => ?_)
    replace S := Lib.hid S
    go_upto_region 5 with fail
    refine regionL (E := [boxE (b + 1 + 1)]) (base := bA) S.out ?_
    clear S
    iterate 2 refine qa ?_
    refine qd undef [boxE (b + 1 + 1)] (h1 := fun Wx hSw => by (have hz := hSw.box (b := (b + 1 + 1)) (o := objE) 0 rfl; refine useZ5 hz fun z0 z1 z2 z3 z4 y0 y1 y2 y3 y4 => ?_; go_simp; exact ⟨rfl, hSw.set5 0 rfl (.string ⟨#[]⟩) (.int .i64 0) (.int .i64 0) (.string ⟨#[]⟩) (.bool false)⟩)) (h2 := ?_)
    refine doneL (h := fun w8 S => ?_)
    refine useR5 (S.box (b := b + 1 + 1) (o := objE) 0 rfl) fun r0 r1 r2 r3 r4 => ?_
    replace S := Lib.hid S
    repeat (first | go_values | go_skip | go_guarded | go_step)
    refine bodyPost_ret (v := .tuple #[.bool true, excN ⟨#[]⟩]) ?_ ?_ ?_
    ·
     simp [results, Tryz.results123, go_sem, r0, r1, r2, r3, r4]
    ·
     rfl
    refine ⟨rfl, ?_⟩
    replace S := S.out
    rw [HBS.out] at S
    exact S.tail.tail.tail
   ·
    have e1 : (x.n == y.n) = false := by simpa using hn
    have HR3 : Hid (rr = if r2 = false then some false else if nx ≠ ny then some false else Z) := Lib.hid (by have e1 := HR2.out; rwa [if_neg hn] at e1)
    clear HR2 hn
    go_upto_region 4 with fail
    refine regionL (E := [boxE (b + 1 + 1)]) (base := bA) S.out ?_
    clear S
    refine qa ?_
    refine qc C0 ?_
    refine qa ?_
    refine qc C1 ?_
    refine qa ?_
    refine doneL (h := fun w9 S => ?_)
    replace S := Lib.hid S
    have KR : QuietC w bA 58 #[hpV h, agV x] (.int .i64 rk) := Lib.hid fun W Q T => by
     rw [HBS.out] at T ⊢
     exact rrow_ok T (Q.length + 2 + i) (atI2 hi) x rk HRK.out
    by_cases hk3 : ky = 3
    ·
     subst hk3
     have hr0 : rk = 0 := by rw [← HRK.out]; rw [if_neg (fun e => by have := kind_rowB.1 e; rw [HKX.out] at this; omega)]
     subst hr0
     have HR4 : Hid (rr = if nx ≠ ny then some false else Z) := Lib.hid (by have e1 := HR3.out; rwa [if_neg (by rw [HW.out]; decide)] at e1)
     have hpx : (H.pairs x).length = nx := by rw [← HNX.out]; unfold HeapM.sizeB; rw [if_pos HKX.out]
     have hpy : (H.pairs y).length = ny := by rw [← HNY.out]; unfold HeapM.sizeB; rw [if_pos HKY.out]
     have HPX := Lib.hid hpx
     have HPY := Lib.hid hpy
     have HK3 := Lib.hid (show True from trivial)
     clear HR3 hpx hpy
     go_upto_region 7 with fail
     refine regionL (E := [boxE (b + 1 + 1)]) (base := bA) S.out ?_
     clear S
     refine qa ?_
     refine qc C0 ?_
     refine qk KR ?_
     iterate 5 refine qa ?_
     refine doneL (h := fun w10 S => ?_)
     replace S := Lib.hid S
     clear KR
     have KA : QuietC w bA 67 #[hpV h, agV x] (.int .i64 nx) := Lib.hid fun W Q T => by
      rw [HBS.out] at T ⊢
      exact rsize_ok T (Q.length + 2 + i) (atI2 hi) G hN x nx HPX.out
     have KB : QuietC w bA 67 #[hpV h, agV y] (.int .i64 ny) := Lib.hid fun W Q T => by
      rw [HBS.out] at T ⊢
      exact rsize_ok T (Q.length + 2 + i) (atI2 hi) G hN y ny HPY.out
     by_cases hnn : nx = ny
     ·
      subst hnn
      have HR5 : Hid (rr = Z) := Lib.hid (by have e1 := HR4.out; rwa [if_neg (by simp)] at e1)
      clear HR4
      go_upto_region 9 with fail
      refine regionP 23 0 (E := [boxE (b + 1 + 1)]) (base := bA) S.out ?_
      clear S
      iterate 3 refine qp ?_
      refine qpc C0 ?_
      refine qpk KA ?_
      refine qp ?_
      refine qpc C1 ?_
      refine qpk KB ?_
      iterate 6 refine qp ?_
      iterate 7 refine qpz ?_
      iterate 2 refine qp ?_
      refine endP ?_
      refine doneS (h := fun w11 S => ?_)
      replace S := Lib.hid S
      clear KA KB
      cases f with
      | zero =>
       obtain rfl : d = 30 := by have := HD1.out; omega
       have hv : rr = none := by rw [HR5.out]; exact HZ0.out rfl
       subst hv
       have KE : QuietC w bA 94 #[.string recursionError] (excN recursionError) := Lib.hid fun W Q T => by
        exact rexc_ok T _
       go_upto_region 12 with fail
       refine regionL (E := [boxE (b + 1 + 1)]) (base := bA) S.out ?_
       clear S
       refine qk KE ?_
       refine qa ?_
       refine qd undef [boxN (b + 1 + 1) recursionError] (h1 := fun Wx hSw => by (have hz := hSw.box (b := (b + 1 + 1)) (o := objE) 0 rfl; refine useZ5 hz fun z0 z1 z2 z3 z4 y0 y1 y2 y3 y4 => ?_; go_simp; exact ⟨rfl, hSw.set5 0 rfl (.string recursionError) (.int .i64 0) (.int .i64 0) (.string ⟨#[]⟩) (.bool false)⟩)) (h2 := ?_)
       refine doneL (h := fun w12 S => ?_)
       refine useR5 (S.box (b := b + 1 + 1) (o := objN recursionError) 0 rfl) fun r0 r1 r2 r3 r4 => ?_
       replace S := Lib.hid S
       repeat (first | go_values | go_skip | go_guarded | go_step)
       refine bodyPost_ret (v := .tuple #[.bool false, excN recursionError]) ?_ ?_ ?_
       ·
        simp [results, Tryz.results123, go_sem, r0, r1, r2, r3, r4]
       ·
        rfl
       refine ⟨rfl, ?_⟩
       replace S := S.out
       rw [HBS.out] at S
       exact S.tail.tail.tail
      | succ g =>
       have hd1 : d < 30 := by have := HD1.out; omega
       have hwr : IntKind.i64.wrap (d + 1) = d + 1 := IntWalk.i64_in _ (by have := HD1.out; omega)
       have HI : Hid (∀ {Rs : List Res} {W : World} (S : Sep w Rs W) (i : Nat) (hi : Rs[i]? = some (refR h H)) (a c : V) (r : Option Bool) (hr : r = H.sameF g a c), Calls Tryz.prog 123 #[.pointer (some ⟨h, 0, none⟩), .agg #[.int .i64 a.kind, .int .i64 a.n, .string a.s], .agg #[.int .i64 c.kind, .int .i64 c.n, .string c.s], .int .i64 (d + 1)] W fun e W' => e = .returned (.tuple #[.bool (r.getD false), excN (nmS r)]) ∧ Sep w Rs W') := Lib.hid fun S i hi a c r hr => HIH.out g (by omega) S i hi a c r hr (d + 1) (by have := HD1.out; omega) (by have := HD1.out; omega)
       have HZ := Lib.hid (HZ1.out g rfl)
       clear HIH HZ0 HZ1
       have HV : Hid (allM (fun k : V => match H.get y k with | none => some false | some z => H.sameF g ((H.get x k).getD V.zero) z) ((H.pairs x).map (·.1)) = rr) := Lib.hid (by rw [HR5.out, HZ.out, if_pos HKX.out])
       have KP : QuietC w bA 164 #[hpV h, agV x, agV y, .int .i64 d] (.tuple #[.bool (rr.getD false), excN (nmS rr)]) := Lib.hid fun W Q T => by
        rw [HBS.out] at T ⊢
        exact (by have hh := rpairs_ok T (Q.length + 2 + i) (atI2 hi) G hN g d ⟨HD1.out.2, hd1⟩ (fun S i hi a c r hr => HI.out S i hi a c r hr) x y; rw [HV.out] at hh; exact hh)
       go_upto_region 14 with fail
       refine regionL (E := [boxE (b + 1 + 1)]) (base := bA) S.out ?_
       clear S
       refine qa ?_
       refine qc C0 ?_
       refine qc C1 ?_
       refine qa ?_
       refine qk KP ?_
       iterate 3 refine qa ?_
       refine qd undef [boxN (b + 1 + 1) (nmS rr)] (h1 := fun Wx hSw => by (have hz := hSw.box (b := (b + 1 + 1)) (o := objE) 0 rfl; refine useZ5 hz fun z0 z1 z2 z3 z4 y0 y1 y2 y3 y4 => ?_; go_simp; exact ⟨rfl, hSw.set5 0 rfl (.string (nmS rr)) (.int .i64 0) (.int .i64 0) (.string ⟨#[]⟩) (.bool false)⟩)) (h2 := ?_)
       refine doneL (h := fun w13 S => ?_)
       refine useR5 (S.box (b := b + 1 + 1) (o := objN (nmS rr)) 0 rfl) fun r0 r1 r2 r3 r4 => ?_
       replace S := Lib.hid S
       repeat (first | go_values | go_skip | go_guarded | go_step)
       refine bodyPost_ret (v := .tuple #[.bool (rr.getD false), excN (nmS rr)]) ?_ ?_ ?_
       ·
        simp [results, Tryz.results123, go_sem, r0, r1, r2, r3, r4]
       ·
        rfl
       refine ⟨rfl, ?_⟩
       replace S := S.out
       rw [HBS.out] at S
       exact S.tail.tail.tail
     ·
      have hnn1 : (nx != ny) = true := by simp [hnn]
      have hnn2 : (nx : Int) ≠ (ny : Int) := by omega
      have hv : rr = some false := by have e1 := HR4.out; rwa [if_pos hnn] at e1
      subst hv
      have HNE := Lib.hid (show ((nx : Int) != (ny : Int)) = true by simpa using hnn2)
      go_upto_region 9 with fail
      refine regionP 23 0 (E := [boxE (b + 1 + 1)]) (base := bA) S.out ?_
      clear S
      iterate 3 refine qp ?_
      refine qpc C0 ?_
      refine qpk KA ?_
      refine qp ?_
      refine qpc C1 ?_
      refine qpk KB ?_
      refine qp (v := .bool true) (hy := fun E Wx hSw => by (go_simp; rw [HNE.out]; exact ⟨rfl, hSw⟩)) (h := ?_)
      iterate 2 refine qp ?_
      iterate 11 refine qpz ?_
      refine qp ?_
      refine endP ?_
      refine doneS (h := fun w14 S => ?_)
      replace S := Lib.hid S
      go_upto_region 10 with fail
      refine regionL (E := [boxE (b + 1 + 1)]) (base := bA) S.out ?_
      clear S
      iterate 2 refine qa ?_
      refine qd undef [boxE (b + 1 + 1)] (h1 := fun Wx hSw => by (have hz := hSw.box (b := (b + 1 + 1)) (o := objE) 0 rfl; refine useZ5 hz fun z0 z1 z2 z3 z4 y0 y1 y2 y3 y4 => ?_; go_simp; exact ⟨rfl, hSw.set5 0 rfl (.string ⟨#[]⟩) (.int .i64 0) (.int .i64 0) (.string ⟨#[]⟩) (.bool false)⟩)) (h2 := ?_)
      refine doneL (h := fun w15 S => ?_)
      refine useR5 (S.box (b := b + 1 + 1) (o := objE) 0 rfl) fun r0 r1 r2 r3 r4 => ?_
      replace S := Lib.hid S
      repeat (first | go_values | go_skip | go_guarded | go_step)
      refine bodyPost_ret (v := .tuple #[.bool false, excN ⟨#[]⟩]) ?_ ?_ ?_
      ·
       simp [results, Tryz.results123, go_sem, r0, r1, r2, r3, r4]
      ·
       rfl
      refine ⟨rfl, ?_⟩
      replace S := S.out
      rw [HBS.out] at S
      exact S.tail.tail.tail
    ·
     have hk3b : (ky == 3) = false := by simp [hk3]
     by_cases hr0 : rk = 0
     ·
      subst hr0
      have hv : rr = some false := by have e1 := HR3.out; rw [if_pos (by rw [HW.out]; simp [hk3])] at e1; exact e1
      subst hv
      clear hk3
      go_upto_region 7 with fail
      refine regionL (E := [boxE (b + 1 + 1)]) (base := bA) S.out ?_
      clear S
      refine qa ?_
      refine qc C0 ?_
      refine qk KR ?_
      iterate 5 refine qa ?_
      refine doneL (h := fun w16 S => ?_)
      replace S := Lib.hid S
      go_upto_region 8 with fail
      refine regionL (E := [boxE (b + 1 + 1)]) (base := bA) S.out ?_
      clear S
      refine qa ?_
      refine qc C0 ?_
      refine qa ?_
      refine qc C1 ?_
      iterate 2 refine qa ?_
      iterate 5 refine qz ?_
      iterate 3 refine qa ?_
      refine qd undef [boxE (b + 1 + 1)] (h1 := fun Wx hSw => by (have hz := hSw.box (b := (b + 1 + 1)) (o := objE) 0 rfl; refine useZ5 hz fun z0 z1 z2 z3 z4 y0 y1 y2 y3 y4 => ?_; go_simp; exact ⟨rfl, hSw.set5 0 rfl (.string ⟨#[]⟩) (.int .i64 0) (.int .i64 0) (.string ⟨#[]⟩) (.bool false)⟩)) (h2 := ?_)
      refine doneL (h := fun w17 S => ?_)
      refine useR5 (S.box (b := b + 1 + 1) (o := objE) 0 rfl) fun r0 r1 r2 r3 r4 => ?_
      replace S := Lib.hid S
      repeat (first | go_values | go_skip | go_guarded | go_step)
      refine bodyPost_ret (v := .tuple #[.bool false, excN ⟨#[]⟩]) ?_ ?_ ?_
      ·
       simp [results, Tryz.results123, go_sem, r0, r1, r2, r3, r4]
      ·
       rfl
      refine ⟨rfl, ?_⟩
      replace S := S.out
      rw [HBS.out] at S
      exact S.tail.tail.tail
     ·
      have hr0b : (rk == 0) = false := by simp [hr0]
      have HR4 : Hid (rr = if nx ≠ ny then some false else Z) := Lib.hid (by have e1 := HR3.out; rwa [if_neg (by rw [HW.out]; simp [hr0])] at e1)
      have hpx : (H.items x).length = nx := by rw [← HNX.out]; unfold HeapM.sizeB; rw [if_neg (by rw [HKX.out]; exact hk3)]
      have hpy : (H.items y).length = ny := by rw [← HNY.out]; unfold HeapM.sizeB; rw [if_neg (by rw [HKY.out]; exact hk3)]
      have HPX := Lib.hid hpx
      have HPY := Lib.hid hpy
      have HK3 := Lib.hid (show ¬ ky = 3 from hk3)
      clear HR3 hpx hpy hk3 hr0
      go_upto_region 7 with fail
      refine regionL (E := [boxE (b + 1 + 1)]) (base := bA) S.out ?_
      clear S
      refine qa ?_
      refine qc C0 ?_
      refine qk KR ?_
      iterate 2 refine qa ?_
      iterate 2 refine qz ?_
      refine qa ?_
      refine doneL (h := fun w18 S => ?_)
      replace S := Lib.hid S
      clear KR
      have KA : QuietC w bA 66 #[hpV h, agV x] (.int .i64 nx) := Lib.hid fun W Q T => by
       rw [HBS.out] at T ⊢
       exact rlen_ok T (Q.length + 2 + i) (atI2 hi) G hN x nx HPX.out
      have KB : QuietC w bA 66 #[hpV h, agV y] (.int .i64 ny) := Lib.hid fun W Q T => by
       rw [HBS.out] at T ⊢
       exact rlen_ok T (Q.length + 2 + i) (atI2 hi) G hN y ny HPY.out
      by_cases hnn : nx = ny
      ·
       subst hnn
       have HR5 : Hid (rr = Z) := Lib.hid (by have e1 := HR4.out; rwa [if_neg (by simp)] at e1)
       clear HR4
       go_upto_region 9 with fail
       refine regionP 23 0 (E := [boxE (b + 1 + 1)]) (base := bA) S.out ?_
       clear S
       iterate 2 refine qp ?_
       iterate 7 refine qpz ?_
       iterate 6 refine qp ?_
       refine qpc C0 ?_
       refine qpk KA ?_
       refine qp ?_
       refine qpc C1 ?_
       refine qpk KB ?_
       iterate 3 refine qp ?_
       refine endP ?_
       refine doneS (h := fun w19 S => ?_)
       replace S := Lib.hid S
       clear KA KB
       cases f with
       | zero =>
        obtain rfl : d = 30 := by have := HD1.out; omega
        have hv : rr = none := by rw [HR5.out]; exact HZ0.out rfl
        subst hv
        have KE : QuietC w bA 94 #[.string recursionError] (excN recursionError) := Lib.hid fun W Q T => by
         exact rexc_ok T _
        go_upto_region 12 with fail
        refine regionL (E := [boxE (b + 1 + 1)]) (base := bA) S.out ?_
        clear S
        refine qk KE ?_
        refine qa ?_
        refine qd undef [boxN (b + 1 + 1) recursionError] (h1 := fun Wx hSw => by (have hz := hSw.box (b := (b + 1 + 1)) (o := objE) 0 rfl; refine useZ5 hz fun z0 z1 z2 z3 z4 y0 y1 y2 y3 y4 => ?_; go_simp; exact ⟨rfl, hSw.set5 0 rfl (.string recursionError) (.int .i64 0) (.int .i64 0) (.string ⟨#[]⟩) (.bool false)⟩)) (h2 := ?_)
        refine doneL (h := fun w20 S => ?_)
        refine useR5 (S.box (b := b + 1 + 1) (o := objN recursionError) 0 rfl) fun r0 r1 r2 r3 r4 => ?_
        replace S := Lib.hid S
        repeat (first | go_values | go_skip | go_guarded | go_step)
        refine bodyPost_ret (v := .tuple #[.bool false, excN recursionError]) ?_ ?_ ?_
        ·
         simp [results, Tryz.results123, go_sem, r0, r1, r2, r3, r4]
        ·
         rfl
        refine ⟨rfl, ?_⟩
        replace S := S.out
        rw [HBS.out] at S
        exact S.tail.tail.tail
       | succ g =>
        have hd1 : d < 30 := by have := HD1.out; omega
        have hwr : IntKind.i64.wrap (d + 1) = d + 1 := IntWalk.i64_in _ (by have := HD1.out; omega)
        have HI : Hid (∀ {Rs : List Res} {W : World} (S : Sep w Rs W) (i : Nat) (hi : Rs[i]? = some (refR h H)) (a c : V) (r : Option Bool) (hr : r = H.sameF g a c), Calls Tryz.prog 123 #[.pointer (some ⟨h, 0, none⟩), .agg #[.int .i64 a.kind, .int .i64 a.n, .string a.s], .agg #[.int .i64 c.kind, .int .i64 c.n, .string c.s], .int .i64 (d + 1)] W fun e W' => e = .returned (.tuple #[.bool (r.getD false), excN (nmS r)]) ∧ Sep w Rs W') := Lib.hid fun S i hi a c r hr => HIH.out g (by omega) S i hi a c r hr (d + 1) (by have := HD1.out; omega) (by have := HD1.out; omega)
        have HZ := Lib.hid (HZ1.out g rfl)
        clear HIH HZ0 HZ1
        obtain ⟨XS, hXS⟩ : ∃ l, H.items x = l := ⟨_, rfl⟩
        obtain ⟨YS, hYS⟩ : ∃ l, H.items y = l := ⟨_, rfl⟩
        have PK : Hid (rr = allM (fun p : V × V => H.sameF g p.1 p.2) (XS.zip YS)) := Lib.hid (by rw [HR5.out, HZ.out, if_neg (by rw [HKX.out]; exact HK3.out), hXS, hYS])
        have hxy : XS.length = YS.length := by rw [← hXS, ← hYS, HPX.out, HPY.out]
        have HXY := Lib.hid hxy
        have HXS := Lib.hid hXS
        have HYS := Lib.hid hYS
        clear hXS hYS hxy HR5 HZ
        have KI : Hid (∀ W (Q : List Res), Sep w (Q ++ bA) W → Calls Tryz.prog 61 #[.pointer (some ⟨h, 0, none⟩), .agg #[.int .i64 x.kind, .int .i64 x.n, .string x.s]] W fun e W' => ∃ a c, e = .returned (.slice a XS.length c) ∧ Sep w (valsR (.slice a XS.length c) XS :: (Q ++ bA)) W') := Lib.hid fun W Q T => by
         rw [HBS.out] at T ⊢
         exact ritems_at T (Q.length + 2 + i) (atI2 hi) G hN x XS HXS.out
        go_upto_region 15 with fail
        refine regionL (E := [emptyR, boxE (b + 1 + 1)]) (base := bA) (Sep.putE S.out) ?_
        clear S
        refine qa ?_
        refine qc C0 ?_
        refine stepL (fun v E1 => ∃ (a_21_1 : Option Addr) (c_21_1 : Nat), v = .slice a_21_1 XS.length c_21_1 ∧ E1 = [valsR (.slice a_21_1 XS.length c_21_1) XS, boxE (b + 1 + 1)]) (h1 := fun Wx hSw => by (go_simp; refine symCallN ?_; exact (KI.out _ _ hSw).mono fun e W' ⟨a, c, e1, e2⟩ => ⟨_, _, e1, ⟨a, c, rfl, rfl⟩, e2.into 0 rfl⟩)) (h2 := fun v E1 hvE => ?_)
        obtain ⟨a_21_1, c_21_1, rfl, rfl⟩ := hvE; simp only [Act.put, pa]; try dsimp only [List.set]
        refine qa ?_
        refine doneL (h := fun w21 S => ?_)
        replace S := Lib.hid S
        have KJ : Hid (∀ W (Q : List Res), Sep w (Q ++ bA) W → Calls Tryz.prog 61 #[.pointer (some ⟨h, 0, none⟩), .agg #[.int .i64 y.kind, .int .i64 y.n, .string y.s]] W fun e W' => ∃ a c, e = .returned (.slice a YS.length c) ∧ Sep w (valsR (.slice a YS.length c) YS :: (Q ++ bA)) W') := Lib.hid fun W Q T => by
         rw [HBS.out] at T ⊢
         exact ritems_at T (Q.length + 2 + i) (atI2 hi) G hN y YS HYS.out
        go_upto_region 16 with fail
        refine regionL (E := [emptyR, valsR (.slice a_21_1 XS.length c_21_1) XS, boxE (b + 1 + 1)]) (base := bA) (Sep.putE S.out) ?_
        clear S
        refine qa ?_
        refine qc C1 ?_
        refine stepL (fun v E1 => ∃ (a_22_1 : Option Addr) (c_22_1 : Nat), v = .slice a_22_1 YS.length c_22_1 ∧ E1 = [valsR (.slice a_22_1 YS.length c_22_1) YS, valsR (.slice a_21_1 XS.length c_21_1) XS, boxE (b + 1 + 1)]) (h1 := fun Wx hSw => by (go_simp; refine symCallN ?_; exact (KJ.out _ _ hSw).mono fun e W' ⟨a, c, e1, e2⟩ => ⟨_, _, e1, ⟨a, c, rfl, rfl⟩, e2.into 0 rfl⟩)) (h2 := fun v E1 hvE => ?_)
        obtain ⟨a_22_1, c_22_1, rfl, rfl⟩ := hvE; simp only [Act.put, pa]; try dsimp only [List.set]
        refine qa ?_
        refine doneL (h := fun w22 S => ?_)
        replace S := Lib.hid S
        clear KI KJ
        have hkl : (XS.length : Int) ≤ 9223372036854775807 := by obtain ⟨_, _, e0, p1, p2, _⟩ := (S.out.row 1 rfl).sees'; cases e0; unfold maxLen at p2; omega
        obtain ⟨bK, hnb⟩ : ∃ l, l = [valsR (.slice a_21_1 XS.length c_21_1) XS, valsR (.slice a_22_1 YS.length c_22_1) YS] ++ bA := ⟨_, rfl⟩
        have HBbK := Lib.hid hnb
        replace S : Sep w ([boxE (b + 1 + 1)] ++ bK) w22 := by
         rw [hnb]
         refine S.out.perm ?_
         exact (show ([valsR (.slice a_22_1 YS.length c_22_1) YS, valsR (.slice a_21_1 XS.length c_21_1) XS, boxE (b + 1 + 1)] ++ bA).Perm ([boxE (b + 1 + 1)] ++ ([valsR (.slice a_21_1 XS.length c_21_1) XS, valsR (.slice a_22_1 YS.length c_22_1) YS] ++ bA)) from by rw [← List.append_assoc]; exact List.Perm.append_right bA (by exact perm_of [2, 1, 0] (by show (List.range' 0 3).Perm [2, 1, 0]; decide) (by rfl)))
        clear hnb
        replace S := Lib.hid S
        have C1_bK := liftC HBbK C1
        have C0_bK := liftC HBbK C0
        go_wp2
        go_loopw [14] (fun s14 wr => ∃ k : Nat, k ≤ XS.length ∧ s14 = .int .i64 k ∧ Hid (∀ q ∈ (XS.zip YS).take k, H.sameF g q.1 q.2 = some true) ∧ Sep w ([boxE (b + 1 + 1)] ++ bK) wr) (fun s14 _ => XS.length - (intOf s14).toNat)
        case atStart => exact ⟨0, Nat.zero_le _, rfl, Lib.hid (by simp), S.out⟩
        case round =>
         obtain ⟨k, hk, rfl, HA, S⟩ := hrel
         replace S := Lib.hid S
         by_cases hlt : k < XS.length
         ·
          have hlti : (k : Int) < XS.length := by omega
          have hlty : (k : Int) < YS.length := by have := HXY.out; omega
          obtain ⟨xv, hxv⟩ : ∃ z, XS[k]? = some z := ⟨XS[k], by simp [hlt]⟩
          obtain ⟨yv, hyv⟩ : ∃ v, YS[k]? = some v := ⟨YS[k]'(by have := HXY.out; omega), by simp⟩
          have hzk : (XS.zip YS)[k]? = some (xv, yv) := by rw [List.getElem?_zip_eq_some]; exact ⟨hxv, hyv⟩
          have T := S.out
          rw [HBbK.out] at T
          obtain ⟨g1, og, hag, -⟩ := ra_three (T.row 1 rfl).sees' hxv
          obtain ⟨g2, og2, hag2, -⟩ := ra_three (T.row 2 rfl).sees' hyv
          clear T
          subst hag hag2
          obtain ⟨q, hq⟩ : ∃ q, q = H.sameF g xv yv := ⟨_, rfl⟩
          have HZK := Lib.hid hzk
          have HLT := Lib.hid hlt
          have HXV := Lib.hid hxv
          have HYV := Lib.hid hyv
          have HQ := Lib.hid hq
          clear hlt hxv hyv hq hk hzk
          have CRX : Hid (∀ W (Q : List Res), Sep w (Q ++ bK) W → W.cell? ⟨g1, og + k * 3, none⟩ = some (.int .i64 xv.kind) ∧ W.cell? ⟨g1, og + k * 3 + 1, none⟩ = some (.int .i64 xv.n) ∧ W.cell? ⟨g1, og + k * 3 + 2, none⟩ = some (.string xv.s)) := Lib.hid fun W Q T => by
           rw [HBbK.out] at T
           exact raThree T (Q.length + 0) (atR rfl) HXV.out
          have CRY : Hid (∀ W (Q : List Res), Sep w (Q ++ bK) W → W.cell? ⟨g2, og2 + k * 3, none⟩ = some (.int .i64 yv.kind) ∧ W.cell? ⟨g2, og2 + k * 3 + 1, none⟩ = some (.int .i64 yv.n) ∧ W.cell? ⟨g2, og2 + k * 3 + 2, none⟩ = some (.string yv.s)) := Lib.hid fun W Q T => by
           rw [HBbK.out] at T
           exact raThree T (Q.length + 1) (atR rfl) HYV.out
          obtain ⟨bq, hbq⟩ : ∃ b, b = q.getD false := ⟨_, rfl⟩
          obtain ⟨nq, hnq⟩ : ∃ n, n = nmS q := ⟨_, rfl⟩
          have HBQ := Lib.hid hbq
          have HNQ := Lib.hid hnq
          clear hbq hnq
          have KS_ : QuietC w bA 123 #[hpV h, agV xv, agV yv, .int .i64 (d + 1)] (.tuple #[.bool bq, excN nq]) := Lib.hid fun W Q T => by
           rw [HBS.out] at T ⊢
           exact (by have hh := HI.out T (Q.length + 2 + i) (atI2 hi) xv yv q HQ.out; rw [← HBQ.out, ← HNQ.out] at hh; exact hh)
          replace KS_ := (liftK HBbK KS_)
          go_upto_region 20 with fail
          refine regionP 15 3 (E := [emptyR, boxE (b + 1 + 1)]) (base := bK) (Sep.putE S.out) ?_
          clear S
          iterate 4 refine qp ?_
          refine qpc CRX ?_
          iterate 3 refine qp ?_
          refine qpc CRY ?_
          iterate 2 refine qp ?_
          refine qpk KS_ ?_
          iterate 3 refine qp ?_
          refine endP ?_
          refine readyS [15] ?_
          refine allocS 0 rfl (fun q => .pointer (some ⟨q, 0, none⟩)) (.cells #[.string ⟨#[]⟩, .int .i64 0, .int .i64 0, .string ⟨#[]⟩, .bool false] 33) (h1 := fun Wx => by go_simp) (h2 := fun qe161 => ?_) (hs := nilS); simp only [Act.put, pa]; try dsimp only [List.set]
          try simp only [List.set_cons_zero, List.set_cons_succ]
          refine qs 16 ?_
          refine readyS [17] ?_
          refine detS undef [boxN qe161 nq, boxE (b + 1 + 1)] (h1 := fun Wx hSw => by (have hz := hSw.box (b := qe161) (o := objE) 0 rfl; refine useZ5 hz fun z0 z1 z2 z3 z4 y0 y1 y2 y3 y4 => ?_; go_simp; exact ⟨rfl, hSw.set5 0 rfl (.string nq) (.int .i64 0) (.int .i64 0) (.string ⟨#[]⟩) (.bool false)⟩)) (h2 := ?_) (hs := nilS); simp only [Act.put, pa]; try dsimp only [List.set]
          refine doneS (h := fun w23 S => ?_)
          replace S := Lib.hid S
          match q, HQ, HBQ, HNQ with
          | some true, HQ, HBQ, HNQ =>
           obtain rfl : bq = true := HBQ.out
           obtain rfl : nq = ⟨#[]⟩ := HNQ.out
           clear HBQ HNQ
           go_upto_region 21 with fail
           refine regionL (E := [boxE qe161, boxE (b + 1 + 1)]) (base := bK) S.out ?_
           clear S
           refine qd _ [boxE qe161, boxE (b + 1 + 1)] (h1 := fun Wx hSw => by (have hz := hSw.box (b := qe161) (o := objE) 0 rfl; have z0 := cellAt hz 0 (v := .string ⟨#[]⟩) rfl; have z1 := cellAt hz 1 (v := .int .i64 0) rfl; have z2 := cellAt hz 2 (v := .int .i64 0) rfl; have z3 := cellAt hz 3 (v := .string ⟨#[]⟩) rfl; have z4 := cellAt hz 4 (v := .bool false) rfl; go_simp; exact ⟨rfl, hSw⟩)) (h2 := ?_)
           iterate 6 refine qa ?_
           refine doneL (h := fun w24 S => ?_)
           replace S := Lib.hid S
           have hi1 : IntKind.i64.wrap ((k : Int) + 1) = (k : Int) + 1 := IntWalk.i64_in _ (by omega)
           replace S := S.out
           replace S := Lib.hid (S.sub (Qs := [boxE (b + 1 + 1)] ++ bK) (List.Sublist.cons _ (List.Sublist.cons_cons _ (List.Sublist.refl _))))
           go_wp2
           exact ⟨⟨k + 1, HLT.out, by go_num, Lib.hid (ra_snoc HZK.out HA.out HQ.out.symm), S.out⟩, by have := HLT.out; simp [intOf]; omega⟩
          | some false, HQ, HBQ, HNQ =>
           obtain rfl : bq = false := HBQ.out
           obtain rfl : nq = ⟨#[]⟩ := HNQ.out
           clear HBQ HNQ
           go_upto_region 21 with fail
           refine regionL (E := [boxE qe161, boxE (b + 1 + 1)]) (base := bK) S.out ?_
           clear S
           refine qd _ [boxE qe161, boxE (b + 1 + 1)] (h1 := fun Wx hSw => by (have hz := hSw.box (b := qe161) (o := objE) 0 rfl; have z0 := cellAt hz 0 (v := .string ⟨#[]⟩) rfl; have z1 := cellAt hz 1 (v := .int .i64 0) rfl; have z2 := cellAt hz 2 (v := .int .i64 0) rfl; have z3 := cellAt hz 3 (v := .string ⟨#[]⟩) rfl; have z4 := cellAt hz 4 (v := .bool false) rfl; go_simp; exact ⟨rfl, hSw⟩)) (h2 := ?_)
           iterate 6 refine qa ?_
           refine doneL (h := fun w25 S => ?_)
           replace S := Lib.hid S
           have hv : rr = some false := by rw [PK.out, ra_stop HZK.out HA.out (by rw [← HQ.out]; simp)]; exact HQ.out.symm
           subst hv
           go_upto_region 22 with fail
           refine regionS (E := [boxE qe161, boxE (b + 1 + 1)]) (base := bK) S.out ?_
           clear S
           refine qs 1 ?_
           refine readyS [0] ?_
           refine detS _ [boxE qe161, boxE (b + 1 + 1)] (h1 := fun Wx hSw => by (have hz := hSw.box (b := qe161) (o := objE) 0 rfl; have z0 := cellAt hz 0 (v := .string ⟨#[]⟩) rfl; have z1 := cellAt hz 1 (v := .int .i64 0) rfl; have z2 := cellAt hz 2 (v := .int .i64 0) rfl; have z3 := cellAt hz 3 (v := .string ⟨#[]⟩) rfl; have z4 := cellAt hz 4 (v := .bool false) rfl; go_simp; exact ⟨rfl, hSw⟩)) (h2 := ?_) (hs := nilS); simp only [Act.put, pa]; try dsimp only [List.set]
           refine readyS [2] ?_
           refine detS undef [boxE qe161, boxE (b + 1 + 1)] (h1 := fun Wx hSw => by (have hz := hSw.box (b := (b + 1 + 1)) (o := objE) 1 rfl; refine useZ5 hz fun z0 z1 z2 z3 z4 y0 y1 y2 y3 y4 => ?_; go_simp; exact ⟨rfl, hSw.set5 1 rfl (.string ⟨#[]⟩) (.int .i64 0) (.int .i64 0) (.string ⟨#[]⟩) (.bool false)⟩)) (h2 := ?_) (hs := nilS); simp only [Act.put, pa]; try dsimp only [List.set]
           refine doneS (h := fun w26 S => ?_)
           refine useR5 (S.box (b := b + 1 + 1) (o := objE) 1 rfl) fun r0 r1 r2 r3 r4 => ?_
           replace S := Lib.hid S
           repeat (first | go_values | go_skip | go_guarded | go_step)
           refine bodyPost_ret (v := .tuple #[.bool false, excN ⟨#[]⟩]) ?_ ?_ ?_
           ·
            simp [results, Tryz.results123, go_sem, r0, r1, r2, r3, r4]
           ·
            rfl
           refine ⟨rfl, ?_⟩
           replace S := S.out
           rw [HBbK.out] at S
           rw [HBS.out] at S
           exact S.tail.tail.tail.tail.tail.tail
          | none, HQ, HBQ, HNQ =>
           obtain rfl : bq = false := HBQ.out
           obtain rfl : nq = recursionError := HNQ.out
           clear HBQ HNQ
           go_upto_region 21 with fail
           refine regionL (E := [boxN qe161 recursionError, boxE (b + 1 + 1)]) (base := bK) S.out ?_
           clear S
           refine qd _ [boxN qe161 recursionError, boxE (b + 1 + 1)] (h1 := fun Wx hSw => by (have hz := hSw.box (b := qe161) (o := objN recursionError) 0 rfl; have z0 := cellAt hz 0 (v := .string recursionError) rfl; have z1 := cellAt hz 1 (v := .int .i64 0) rfl; have z2 := cellAt hz 2 (v := .int .i64 0) rfl; have z3 := cellAt hz 3 (v := .string ⟨#[]⟩) rfl; have z4 := cellAt hz 4 (v := .bool false) rfl; go_simp; exact ⟨rfl, hSw⟩)) (h2 := ?_)
           iterate 3 refine qa ?_
           iterate 2 refine qz ?_
           refine qa ?_
           refine doneL (h := fun w27 S => ?_)
           replace S := Lib.hid S
           have hv : rr = none := by rw [PK.out, ra_stop HZK.out HA.out (by rw [← HQ.out]; simp)]; exact HQ.out.symm
           subst hv
           go_upto_region 22 with fail
           refine regionS (E := [boxN qe161 recursionError, boxE (b + 1 + 1)]) (base := bK) S.out ?_
           clear S
           refine qs 1 ?_
           refine readyS [0] ?_
           refine detS _ [boxN qe161 recursionError, boxE (b + 1 + 1)] (h1 := fun Wx hSw => by (have hz := hSw.box (b := qe161) (o := objN recursionError) 0 rfl; have z0 := cellAt hz 0 (v := .string recursionError) rfl; have z1 := cellAt hz 1 (v := .int .i64 0) rfl; have z2 := cellAt hz 2 (v := .int .i64 0) rfl; have z3 := cellAt hz 3 (v := .string ⟨#[]⟩) rfl; have z4 := cellAt hz 4 (v := .bool false) rfl; go_simp; exact ⟨rfl, hSw⟩)) (h2 := ?_) (hs := nilS); simp only [Act.put, pa]; try dsimp only [List.set]
           refine readyS [2] ?_
           refine detS undef [boxN qe161 recursionError, boxN (b + 1 + 1) recursionError] (h1 := fun Wx hSw => by (have hz := hSw.box (b := (b + 1 + 1)) (o := objE) 1 rfl; refine useZ5 hz fun z0 z1 z2 z3 z4 y0 y1 y2 y3 y4 => ?_; go_simp; exact ⟨rfl, hSw.set5 1 rfl (.string recursionError) (.int .i64 0) (.int .i64 0) (.string ⟨#[]⟩) (.bool false)⟩)) (h2 := ?_) (hs := nilS); simp only [Act.put, pa]; try dsimp only [List.set]
           refine doneS (h := fun w28 S => ?_)
           refine useR5 (S.box (b := b + 1 + 1) (o := objN recursionError) 1 rfl) fun r0 r1 r2 r3 r4 => ?_
           replace S := Lib.hid S
           repeat (first | go_values | go_skip | go_guarded | go_step)
           refine bodyPost_ret (v := .tuple #[.bool false, excN recursionError]) ?_ ?_ ?_
           ·
            simp [results, Tryz.results123, go_sem, r0, r1, r2, r3, r4]
           ·
            rfl
           refine ⟨rfl, ?_⟩
           replace S := S.out
           rw [HBbK.out] at S
           rw [HBS.out] at S
           exact S.tail.tail.tail.tail.tail.tail
         ·
          obtain rfl : k = XS.length := by omega
          have hno : ¬ ((XS.length : Int) < XS.length) := by omega
          have hv : rr = some true := by rw [PK.out]; exact allM_true.2 (by have := HA.out; rwa [List.take_of_length_le (by rw [List.length_zip]; omega)] at this)
          subst hv
          clear hlt hk HA
          go_upto_region 23 with fail
          refine regionL (E := [boxE (b + 1 + 1)]) (base := bK) S.out ?_
          clear S
          iterate 2 refine qa ?_
          refine qd undef [boxE (b + 1 + 1)] (h1 := fun Wx hSw => by (have hz := hSw.box (b := (b + 1 + 1)) (o := objE) 0 rfl; refine useZ5 hz fun z0 z1 z2 z3 z4 y0 y1 y2 y3 y4 => ?_; go_simp; exact ⟨rfl, hSw.set5 0 rfl (.string ⟨#[]⟩) (.int .i64 0) (.int .i64 0) (.string ⟨#[]⟩) (.bool false)⟩)) (h2 := ?_)
          refine doneL (h := fun w29 S => ?_)
          refine useR5 (S.box (b := b + 1 + 1) (o := objE) 0 rfl) fun r0 r1 r2 r3 r4 => ?_
          replace S := Lib.hid S
          repeat (first | go_values | go_skip | go_guarded | go_step)
          refine bodyPost_ret (v := .tuple #[.bool true, excN ⟨#[]⟩]) ?_ ?_ ?_
          ·
           simp [results, Tryz.results123, go_sem, r0, r1, r2, r3, r4]
          ·
           rfl
          refine ⟨rfl, ?_⟩
          replace S := S.out
          rw [HBbK.out] at S
          rw [HBS.out] at S
          exact S.tail.tail.tail.tail.tail
      ·
       have hnn1 : (nx != ny) = true := by simp [hnn]
       have hnn2 : (nx : Int) ≠ (ny : Int) := by omega
       have hv : rr = some false := by have e1 := HR4.out; rwa [if_pos hnn] at e1
       subst hv
       go_upto_region 9 with fail
       refine regionP 23 0 (E := [boxE (b + 1 + 1)]) (base := bA) S.out ?_
       clear S
       iterate 2 refine qp ?_
       iterate 7 refine qpz ?_
       iterate 6 refine qp ?_
       refine qpc C0 ?_
       refine qpk KA ?_
       refine qp ?_
       refine qpc C1 ?_
       refine qpk KB ?_
       iterate 3 refine qp ?_
       refine endP ?_
       refine doneS (h := fun w30 S => ?_)
       replace S := Lib.hid S
       go_upto_region 10 with fail
       refine regionL (E := [boxE (b + 1 + 1)]) (base := bA) S.out ?_
       clear S
       iterate 2 refine qa ?_
       refine qd undef [boxE (b + 1 + 1)] (h1 := fun Wx hSw => by (have hz := hSw.box (b := (b + 1 + 1)) (o := objE) 0 rfl; refine useZ5 hz fun z0 z1 z2 z3 z4 y0 y1 y2 y3 y4 => ?_; go_simp; exact ⟨rfl, hSw.set5 0 rfl (.string ⟨#[]⟩) (.int .i64 0) (.int .i64 0) (.string ⟨#[]⟩) (.bool false)⟩)) (h2 := ?_)
       refine doneL (h := fun w31 S => ?_)
       refine useR5 (S.box (b := b + 1 + 1) (o := objE) 0 rfl) fun r0 r1 r2 r3 r4 => ?_
       replace S := Lib.hid S
       repeat (first | go_values | go_skip | go_guarded | go_step)
       refine bodyPost_ret (v := .tuple #[.bool false, excN ⟨#[]⟩]) ?_ ?_ ?_
       ·
        simp [results, Tryz.results123, go_sem, r0, r1, r2, r3, r4]
       ·
        rfl
       refine ⟨rfl, ?_⟩
       replace S := S.out
       rw [HBS.out] at S
       exact S.tail.tail.tail
end
end Go.Proofs.YtijlebhoapdfnaaGreat
