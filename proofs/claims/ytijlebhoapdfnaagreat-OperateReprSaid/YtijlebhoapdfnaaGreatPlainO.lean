/- ch 16: how operate tells functions and objects. -/
import Derived.Test.YtijlebhoapdfnaaGreatTellE
import Derived.Test.YtijlebhoapdfnaaGreatCmpT
import Derived.Test.YtijlebhoapdfnaaGreatOprN
set_option maxRecDepth 100000
set_option maxHeartbeats 12800000
namespace Go.Proofs.YtijlebhoapdfnaaGreat
set_option linter.unusedSimpArgs false
open Go.RowKit Go.Maps
set_option linter.unusedVariables false
attribute [local irreducible] wpSeqS wpAnyS wpPreS
def exS (s : ByteArray) : Value := .string s
abbrev wordR (m : Nat) (l : List (Int × ByteArray)) : Res := mapR 3 ekI exS m l
theorem keyN : Keyed Tryz.prog 3 := Maps.int_keyed Tryz.underlying3
theorem keyOfN {n : Int} (h : okI n) : ∃ kl, keyOf Tryz.prog 3 (ekI n) = some kl := ⟨_, Maps.keyOf_int_mk Tryz.underlying3 h⟩
/-- The words of objects' kinds. -/
def wordTab : List (Int × ByteArray) := [(0, ⟨#[100, 101, 97, 100]⟩), (4, ⟨#[102, 117, 110, 99, 116, 105, 111, 110, 32]⟩), (5, ⟨#[99, 108, 97, 115, 115, 32]⟩), (7, ⟨#[109, 101, 116, 104, 111, 100, 32]⟩), (8, ⟨#[103, 101, 110, 101, 114, 97, 116, 111, 114, 32]⟩), (12, ⟨#[109, 111, 100, 117, 108, 101, 32]⟩), (9, ⟨#[105, 116, 101, 114, 97, 116, 111, 114]⟩), (10, ⟨#[99, 101, 108, 108]⟩), (11, ⟨#[119, 101, 97, 107]⟩)]
def wsK (k : Int) : ByteArray := (getL wordTab k).getD ⟨#[]⟩
theorem wsK_cases (k : Int) (h : 0 ≤ k ∧ k ≤ 12) (h1 : k ≠ 1 ∧ k ≠ 2 ∧ k ≠ 3) : (wsK k = ⟨#[]⟩ ∧ namedK k = true ∧ wordK k = []) ∨ ((wsK k).data.toList ≠ [] ∧ Lib.hasSuffix (wsK k).data.toList [32] = namedK k ∧ (wsK k).data.toList = wordK k ∧ (wsK k).size ≤ 10) := by
 obtain e | e | e | e | e | e | e | e | e | e : k = 0 ∨ k = 4 ∨ k = 5 ∨ k = 6 ∨ k = 7 ∨ k = 8 ∨ k = 9 ∨ k = 10 ∨ k = 11 ∨ k = 12 := by omega
 all_goals subst e; decide
section
variable {w W : World} {Rs : List Res} {t h : Nat} {H : HeapM} {T : TelM}
theorem wordPut {m : Nat} {l l' : List (Int × ByteArray)} (i : Nat) (S : Sep w Rs W) (hi : Rs[i]? = some (wordR m l)) (k : Int) (hk : 0 ≤ k ∧ k ≤ 12) (s : ByteArray) (hl : getL l k = none) (hl' : l' = l ++ [(k, s)]) :
  ∃ W', (Instr.mapUpdate 227 (.map (some m)) (.int .i64 k) (.string s)).run Tryz.prog W = .ok () W' ∧ Sep w (Rs.set i (wordR m l')) W' ∧ W'.heap.size = W.heap.size := by
 subst hl'
 obtain ⟨kl, hkl⟩ := keyOfN (okI_of (n := k) (by omega))
 have := S.mapPut i hi ekI_inj keyN Tryz.underlying227 hkl s
 rw [putL_none _ hl] at this
 exact this
theorem wordLook {m : Nat} (S : Sep w Rs W) (i : Nat) (hi : Rs[i]? = some (wordR m wordTab)) (k : Int) (hk : 0 ≤ k ∧ k ≤ 12) : (Instr.lookup 227 (.map (some m)) (.int .i64 k) false).run Tryz.prog W = .ok (.string (wsK k)) W := by
 obtain ⟨kl, hkl⟩ := keyOfN (okI_of (n := k) (by omega))
 have := (S.mapLook i hi).look ekI_inj keyN Tryz.underlying227 (Tryz.zeroValue9 W) hkl false
 unfold wsK
 cases hf : getL wordTab k with
 | none => rw [hf] at this; exact this
 | some x => rw [hf] at this; exact this
theorem plain_fun (S : Sep w Rs W) (v : V) (hk : v.kind = 5) (hs : v.s.size ≤ 1000000) : Calls Tryz.prog 166 #[.pointer (some ⟨t, 0, none⟩), .agg #[.int .i64 v.kind, .int .i64 v.n, .string v.s]] W fun e W' => e = .returned (.string ⟨(H.plainL v).toArray⟩) ∧ Sep w Rs W' := by
 have f0 : (v.kind == 0) = false := by simp [hk]
 have f1 : (v.kind == 1) = false := by simp [hk]
 have f2 : (v.kind == 2) = false := by simp [hk]
 have f3 : (v.kind == 3) = false := by simp [hk]
 have f5 : (v.kind == 5) = true := by simp [hk]
 have PL : H.plainL v = [60, 98, 117, 105, 108, 116, 105, 110, 32] ++ v.s.data.toList ++ [62] := by unfold HeapM.plainL; simp [hk]
 have HSZ := Lib.hid hs
 clear hs
 have PLH := Lib.hid PL
 clear PL hk
 obtain ⟨b, hb⟩ : ∃ gx_, (W.heap.size) = gx_ := ⟨_, rfl⟩
 replace S := (S.alloc (.cells #[.int .i64 v.kind, .int .i64 v.n, .string v.s] 24))
 simp only [World.size_alloc, hb] at S
 obtain ⟨bA, hbs⟩ : ∃ l, l = boxV b v :: Rs := ⟨_, rfl⟩
 have HBS := Lib.hid hbs
 replace S := enterP (w := w) (all := [boxV b v]) (E := []) (B := [boxV b v]) (Rs := Rs) S hbs (perm_of [0] (by show (List.range' 0 1).Perm [0]; decide) (by rfl))
 have C0 := baseC3 (w := w) (b := b) hbs 0 rfl
 clear hbs
 replace S := Lib.hid S
 go_enter Tryz.func166, Tryz.ntmps166
 go_upto_region 1 with fail
 try simp only [World.size_alloc, hb]
 clear hb
 refine regionL (E := []) (base := bA) S.out ?_
 clear S
 refine qa ?_
 refine qc C0 ?_
 refine doneL (h := fun w1 S => ?_)
 replace S := Lib.hid S
 have q1 : ¬ 9223372036854775807 < 9 + v.s.size := by have := HSZ.out; omega
 have q2 : ¬ 9223372036854775807 < 9 + v.s.size + 1 := by have := HSZ.out; omega
 go_upto_region 13 with fail
 refine regionL (E := []) (base := bA) S.out ?_
 clear S
 refine qa ?_
 refine qc C0 ?_
 iterate 3 refine qa ?_
 refine doneL (h := fun w2 S => ?_)
 replace S := Lib.hid S
 go_wp2
 refine bodyPost_ret (v := .string (⟨#[60, 98, 117, 105, 108, 116, 105, 110, 32]⟩ ++ v.s ++ ⟨#[62]⟩)) ?_ ?_ ?_
 ·
  simp [results, Tryz.results166, go_sem]
 ·
  rfl
 refine ⟨?_, ?_⟩
 ·
  rw [PLH.out]; first | (congr 2; done) | (congr 2; apply ByteArray.ext; simp)
 replace S := S.out
 rw [HBS.out] at S
 exact S.tail
theorem plain_obj (S : Sep w Rs W) (j : Nat) (hj : Rs[j]? = some (tellR t h T)) (i : Nat) (hi : Rs[i]? = some (heapR h H)) (v : V) (hk : v.kind ≠ 0 ∧ v.kind ≠ 1 ∧ v.kind ≠ 2 ∧ v.kind ≠ 3 ∧ v.kind ≠ 5) (hw : H.wholeB v = false) (hkk : 0 ≤ H.kind v ∧ H.kind v ≤ 12) (hnl : (H.name v).size ≤ 1000000) : Calls Tryz.prog 166 #[.pointer (some ⟨t, 0, none⟩), .agg #[.int .i64 v.kind, .int .i64 v.n, .string v.s]] W fun e W' => e = .returned (.string ⟨(H.plainL v).toArray⟩) ∧ Sep w Rs W' := by
 have f0 : (v.kind == 0) = false := by simp [hk.1]
 have f1 : (v.kind == 1) = false := by simp [hk.2.1]
 have f2 : (v.kind == 2) = false := by simp [hk.2.2.1]
 have f3 : (v.kind == 3) = false := by simp [hk.2.2.2.1]
 have f5 : (v.kind == 5) = false := by simp [hk.2.2.2.2]
 have PL : H.plainL v = 60 :: (wordK (H.kind v) ++ (if namedK (H.kind v) = true then (H.name v).data.toList else []) ++ [62]) := by unfold HeapM.plainL; simp [hk]
 obtain ⟨kx, hK⟩ : ∃ k, H.kind v = k := ⟨_, rfl⟩
 obtain ⟨nm, hN⟩ : ∃ n, H.name v = n := ⟨_, rfl⟩
 have hr : kx ≠ 1 ∧ kx ≠ 2 ∧ kx ≠ 3 := by unfold HeapM.wholeB HeapM.rowB at hw; rw [hK] at hw; simp at hw; omega
 rw [hK] at hkk PL
 rw [hN] at hnl PL
 obtain ⟨ws, hws⟩ : ∃ x, wsK kx = x := ⟨_, rfl⟩
 have hwc := wsK_cases kx hkk hr
 rw [hws] at hwc
 have HK := Lib.hid hK
 have HN := Lib.hid hN
 have HR := Lib.hid hr
 have HNL := Lib.hid hnl
 have HWS := Lib.hid hws
 have HWC := Lib.hid hwc
 have HKK := Lib.hid hkk
 clear hK hN hr hkk hw hnl hws hwc
 have PLH := Lib.hid PL
 clear PL hk
 obtain ⟨b, hb⟩ : ∃ gx_, (W.heap.size) = gx_ := ⟨_, rfl⟩
 replace S := (S.alloc (.cells #[.int .i64 v.kind, .int .i64 v.n, .string v.s] 24))
 simp only [World.size_alloc, hb] at S
 obtain ⟨bA, hbs⟩ : ∃ l, l = boxV b v :: Rs := ⟨_, rfl⟩
 have HBS := Lib.hid hbs
 replace S := enterP (w := w) (all := [boxV b v]) (E := []) (B := [boxV b v]) (Rs := Rs) S hbs (perm_of [0] (by show (List.range' 0 1).Perm [0]; decide) (by rfl))
 have C0 := baseC3 (w := w) (b := b) hbs 0 rfl
 have Ct : Hid (∀ W (Q : List Res), Sep w (Q ++ bA) W → W.cell? ⟨t, 0, none⟩ = some (.pointer (some ⟨h, 0, none⟩))) := Lib.hid fun W Q T => by
  rw [HBS.out] at T
  obtain ⟨p, vq, _, e2, _⟩ := T.telB (Q.length + 1 + j) (by rw [List.getElem?_append_right (by omega), show Q.length + 1 + j - Q.length = j + 1 by omega]; simpa using hj)
  exact cellAt e2 0 rfl
 clear hbs
 replace S := Lib.hid S
 go_enter Tryz.func166, Tryz.ntmps166
 go_upto_region 1 with fail
 try simp only [World.size_alloc, hb]
 clear hb
 refine regionL (E := []) (base := bA) S.out ?_
 clear S
 refine qa ?_
 refine qc C0 ?_
 refine doneL (h := fun w1 S => ?_)
 replace S := Lib.hid S
 have KK : QuietC w bA 72 #[hpV h, agV v] (.int .i64 kx) := Lib.hid fun W Q T => by
  rw [HBS.out] at T ⊢
  exact kind_at T (Q.length + 1 + i) (atI1 hi) v kx HK.out
 have KN : QuietC w bA 73 #[hpV h, agV v] (.string nm) := Lib.hid fun W Q T => by
  rw [HBS.out] at T ⊢
  exact (by rw [← HN.out]; exact (T.name (Q.length + 1 + i) (atI1 hi) v).mono fun e W' hh => ⟨hh.1, hh.2.1⟩)
 replace S := S.out
 replace S : Sep w bA w1 := S
 obtain ⟨m, hm⟩ : ∃ m, m = w1.heap.size := ⟨_, rfl⟩
 obtain ⟨W0, hW0⟩ : ∃ W0, W0 = w1.alloc (.map #[] 0) := ⟨_, rfl⟩
 have T0 := S.mapMade 3 ekI exS
 rw [← hm, ← hW0] at T0
 replace T0 : Sep w (wordR m [] :: bA) W0 := T0
 have hmk : (Instr.makeMap 227 none).run Tryz.prog w1 = .ok (.map (some m)) W0 := by rw [run_makeMap, hW0, hm]
 obtain ⟨W1, r1, T1, z1⟩ := wordPut (l' := [(0, ⟨#[100, 101, 97, 100]⟩)]) 0 T0 rfl 0 (by omega) ⟨#[100, 101, 97, 100]⟩ rfl rfl
 obtain ⟨W2, r2, T2, z2⟩ := wordPut (l' := [(0, ⟨#[100, 101, 97, 100]⟩), (4, ⟨#[102, 117, 110, 99, 116, 105, 111, 110, 32]⟩)]) 0 T1 rfl 4 (by omega) ⟨#[102, 117, 110, 99, 116, 105, 111, 110, 32]⟩ rfl rfl
 obtain ⟨W3, r3, T3, z3⟩ := wordPut (l' := [(0, ⟨#[100, 101, 97, 100]⟩), (4, ⟨#[102, 117, 110, 99, 116, 105, 111, 110, 32]⟩), (5, ⟨#[99, 108, 97, 115, 115, 32]⟩)]) 0 T2 rfl 5 (by omega) ⟨#[99, 108, 97, 115, 115, 32]⟩ rfl rfl
 obtain ⟨W4, r4, T4, z4⟩ := wordPut (l' := [(0, ⟨#[100, 101, 97, 100]⟩), (4, ⟨#[102, 117, 110, 99, 116, 105, 111, 110, 32]⟩), (5, ⟨#[99, 108, 97, 115, 115, 32]⟩), (7, ⟨#[109, 101, 116, 104, 111, 100, 32]⟩)]) 0 T3 rfl 7 (by omega) ⟨#[109, 101, 116, 104, 111, 100, 32]⟩ rfl rfl
 obtain ⟨W5, r5, T5, z5⟩ := wordPut (l' := [(0, ⟨#[100, 101, 97, 100]⟩), (4, ⟨#[102, 117, 110, 99, 116, 105, 111, 110, 32]⟩), (5, ⟨#[99, 108, 97, 115, 115, 32]⟩), (7, ⟨#[109, 101, 116, 104, 111, 100, 32]⟩), (8, ⟨#[103, 101, 110, 101, 114, 97, 116, 111, 114, 32]⟩)]) 0 T4 rfl 8 (by omega) ⟨#[103, 101, 110, 101, 114, 97, 116, 111, 114, 32]⟩ rfl rfl
 obtain ⟨W6, r6, T6, z6⟩ := wordPut (l' := [(0, ⟨#[100, 101, 97, 100]⟩), (4, ⟨#[102, 117, 110, 99, 116, 105, 111, 110, 32]⟩), (5, ⟨#[99, 108, 97, 115, 115, 32]⟩), (7, ⟨#[109, 101, 116, 104, 111, 100, 32]⟩), (8, ⟨#[103, 101, 110, 101, 114, 97, 116, 111, 114, 32]⟩), (12, ⟨#[109, 111, 100, 117, 108, 101, 32]⟩)]) 0 T5 rfl 12 (by omega) ⟨#[109, 111, 100, 117, 108, 101, 32]⟩ rfl rfl
 obtain ⟨W7, r7, T7, z7⟩ := wordPut (l' := [(0, ⟨#[100, 101, 97, 100]⟩), (4, ⟨#[102, 117, 110, 99, 116, 105, 111, 110, 32]⟩), (5, ⟨#[99, 108, 97, 115, 115, 32]⟩), (7, ⟨#[109, 101, 116, 104, 111, 100, 32]⟩), (8, ⟨#[103, 101, 110, 101, 114, 97, 116, 111, 114, 32]⟩), (12, ⟨#[109, 111, 100, 117, 108, 101, 32]⟩), (9, ⟨#[105, 116, 101, 114, 97, 116, 111, 114]⟩)]) 0 T6 rfl 9 (by omega) ⟨#[105, 116, 101, 114, 97, 116, 111, 114]⟩ rfl rfl
 obtain ⟨W8, r8, T8, z8⟩ := wordPut (l' := [(0, ⟨#[100, 101, 97, 100]⟩), (4, ⟨#[102, 117, 110, 99, 116, 105, 111, 110, 32]⟩), (5, ⟨#[99, 108, 97, 115, 115, 32]⟩), (7, ⟨#[109, 101, 116, 104, 111, 100, 32]⟩), (8, ⟨#[103, 101, 110, 101, 114, 97, 116, 111, 114, 32]⟩), (12, ⟨#[109, 111, 100, 117, 108, 101, 32]⟩), (9, ⟨#[105, 116, 101, 114, 97, 116, 111, 114]⟩), (10, ⟨#[99, 101, 108, 108]⟩)]) 0 T7 rfl 10 (by omega) ⟨#[99, 101, 108, 108]⟩ rfl rfl
 obtain ⟨W9, r9, T9, z9⟩ := wordPut (l' := [(0, ⟨#[100, 101, 97, 100]⟩), (4, ⟨#[102, 117, 110, 99, 116, 105, 111, 110, 32]⟩), (5, ⟨#[99, 108, 97, 115, 115, 32]⟩), (7, ⟨#[109, 101, 116, 104, 111, 100, 32]⟩), (8, ⟨#[103, 101, 110, 101, 114, 97, 116, 111, 114, 32]⟩), (12, ⟨#[109, 111, 100, 117, 108, 101, 32]⟩), (9, ⟨#[105, 116, 101, 114, 97, 116, 111, 114]⟩), (10, ⟨#[99, 101, 108, 108]⟩), (11, ⟨#[119, 101, 97, 107]⟩)]) 0 T8 rfl 11 (by omega) ⟨#[119, 101, 97, 107]⟩ rfl rfl
 replace T9 : Sep w ([] ++ (wordR m wordTab :: bA)) W9 := T9
 obtain ⟨bB, hbB⟩ : ∃ l, l = wordR m wordTab :: bA := ⟨_, rfl⟩
 have HBB := Lib.hid hbB
 rw [← hbB] at T9
 clear hbB
 replace S := Lib.hid T9
 clear T0 T1 T2 T3 T4 T5 T6 T7 T8 T9 z1 z2 z3 z4 z5 z6 z7 z8 z9 hm hW0
 go_upto_region 15 with fail
 clear hmk r1 r2 r3 r4 r5 r6 r7 r8 r9
 replace KK : Hid (∀ W (Q : List Res), Sep w (Q ++ bB) W → Calls Tryz.prog 72 #[.pointer (some ⟨h, 0, none⟩), .agg #[.int .i64 v.kind, .int .i64 v.n, .string v.s]] W fun e W' => e = .returned (.int .i64 kx) ∧ Sep w (Q ++ bB) W') := Lib.hid fun W Q T => by
  rw [show Q ++ bB = (Q ++ [wordR m wordTab]) ++ bA from by rw [HBB.out]; simp] at T ⊢; revert T; generalize Q ++ [wordR m wordTab] = Q; intro T
  exact KK.out _ _ T
 replace KN : Hid (∀ W (Q : List Res), Sep w (Q ++ bB) W → Calls Tryz.prog 73 #[.pointer (some ⟨h, 0, none⟩), .agg #[.int .i64 v.kind, .int .i64 v.n, .string v.s]] W fun e W' => e = .returned (.string nm) ∧ Sep w (Q ++ bB) W') := Lib.hid fun W Q T => by
  rw [show Q ++ bB = (Q ++ [wordR m wordTab]) ++ bA from by rw [HBB.out]; simp] at T ⊢; revert T; generalize Q ++ [wordR m wordTab] = Q; intro T
  exact KN.out _ _ T
 have KL : Hid (∀ W (Q : List Res), Sep w (Q ++ bB) W → (Instr.lookup 227 (.map (some m)) (.int .i64 kx) false).run Tryz.prog W = .ok (.string ws) W) := Lib.hid fun W Q T => by
  rw [HBB.out] at T
  have hh := wordLook T (Q.length) (by rw [List.getElem?_append_right (by omega), Nat.sub_self]; rfl) kx HKK.out
  rw [HWS.out] at hh; exact hh
 replace C0 : Hid (∀ W (Q : List Res), Sep w (Q ++ bB) W → W.cell? ⟨b, 0, none⟩ = some (.int .i64 v.kind) ∧ W.cell? ⟨b, 1, none⟩ = some (.int .i64 v.n) ∧ W.cell? ⟨b, 2, none⟩ = some (.string v.s)) := Lib.hid fun W Q T => by
  rw [show Q ++ bB = (Q ++ [wordR m wordTab]) ++ bA from by rw [HBB.out]; simp] at T
  exact C0.out _ _ T
 replace Ct : Hid (∀ W (Q : List Res), Sep w (Q ++ bB) W → W.cell? ⟨t, 0, none⟩ = some (.pointer (some ⟨h, 0, none⟩))) := Lib.hid fun W Q T => by
  rw [show Q ++ bB = (Q ++ [wordR m wordTab]) ++ bA from by rw [HBB.out]; simp] at T
  exact Ct.out _ _ T
 go_upto_region 15 with fail
 refine regionP 9 0 (E := []) (base := bB) S.out ?_
 clear S
 iterate 4 refine qp ?_
 refine qpc Ct ?_
 refine qpc C0 ?_
 refine qpk KK ?_
 refine qp (v := .string ws) (hy := fun E Wx hSw => by (have hl := KL.out _ _ hSw; go_simp; exact ⟨rfl, hSw⟩)) (h := ?_)
 refine qp ?_
 refine endP ?_
 refine doneS (h := fun w2 S => ?_)
 replace S := Lib.hid S
 rcases HWC.out with ⟨e1, e2, e3⟩ | ⟨e1, e2, e3, e4⟩
 ·
  have HWZ : Hid (ws.size ≤ 10) := Lib.hid (by rw [e1]; decide)
  have HW3 : Hid (wordK kx = ws.data.toList) := Lib.hid (by rw [e3, e1])
  have HNM := Lib.hid e2
  have HNE : Hid (ws.toList.isEmpty = true) := Lib.hid (by rw [e1, ByteArray.toList_eq]; rfl)
  clear e1 e2 e3
  go_upto_region 16 with fail
  refine regionL (E := []) (base := bB) S.out ?_
  clear S
  refine qa ?_
  refine qa (v := .bool true) (hy := fun E Wx hSw => by (go_simp; rw [HNE.out]; exact ⟨rfl, hSw⟩)) (h := ?_)
  refine qa ?_
  iterate 2 refine qz ?_
  refine qa ?_
  refine doneL (h := fun w3 S => ?_)
  replace S := Lib.hid S
  have q1 : ¬ 9223372036854775807 < ws.size + nm.size := by have := HNL.out; have := HWZ.out; omega
  go_upto_region 17 with fail
  refine regionP 9 0 (E := []) (base := bB) S.out ?_
  clear S
  iterate 4 refine qp ?_
  refine qpc Ct ?_
  refine qpc C0 ?_
  refine qpk KN ?_
  iterate 2 refine qp ?_
  refine endP ?_
  refine doneS (h := fun w4 S => ?_)
  replace S := Lib.hid S
  clear q1
  have q1 : ¬ 9223372036854775807 < 1 + (ws.size + nm.size) := by have := HNL.out; have := HWZ.out; omega
  have q2 : ¬ 9223372036854775807 < 1 + (ws.size + nm.size) + 1 := by have := HNL.out; have := HWZ.out; omega
  go_wp2
  refine bodyPost_ret (v := .string (⟨#[60]⟩ ++ (ws ++ nm) ++ ⟨#[62]⟩)) ?_ ?_ ?_
  ·
   simp [results, Tryz.results166, go_sem]
  ·
   rfl
  refine ⟨?_, ?_⟩
  ·
   rw [PLH.out, HW3.out, HNM.out]; first | (congr 2; done) | (congr 2; apply ByteArray.ext; simp)
  replace S := S.out
  rw [HBB.out, HBS.out] at S
  exact S.tail.tail
 ·
  have HWZ := Lib.hid e4
  have HW3 := Lib.hid e3.symm
  have hne : ws.toList.isEmpty = false := by rw [ByteArray.toList_eq, List.isEmpty_eq_false_iff]; exact e1
  have HNE := Lib.hid hne
  have HE2 := Lib.hid e2
  clear e1 e2 e3 e4 hne
  cases hnk : namedK kx with
  | true =>
   have HNM := Lib.hid hnk
   clear hnk
   have KS : QuietC w bB 199 #[.string ws, .string ⟨#[32]⟩] (.bool true) := Lib.hid fun W Q T => by
    exact (Tryz.strings_HasSuffix ws ⟨#[32]⟩ W (by have := HWZ.out; omega)).mono fun e W' ⟨e1, e2⟩ => ⟨by rw [e1, ← HNM.out, ← HE2.out], e2 ▸ T⟩
   go_upto_region 16 with fail
   refine regionL (E := []) (base := bB) S.out ?_
   clear S
   refine qa ?_
   refine qa (v := .bool false) (hy := fun E Wx hSw => by (go_simp; rw [HNE.out]; exact ⟨rfl, hSw⟩)) (h := ?_)
   iterate 2 refine qa ?_
   refine qk KS ?_
   refine qa ?_
   refine doneL (h := fun w5 S => ?_)
   replace S := Lib.hid S
   have q1 : ¬ 9223372036854775807 < ws.size + nm.size := by have := HNL.out; have := HWZ.out; omega
   go_upto_region 17 with fail
   refine regionP 9 0 (E := []) (base := bB) S.out ?_
   clear S
   iterate 4 refine qp ?_
   refine qpc Ct ?_
   refine qpc C0 ?_
   refine qpk KN ?_
   iterate 2 refine qp ?_
   refine endP ?_
   refine doneS (h := fun w6 S => ?_)
   replace S := Lib.hid S
   clear q1
   have q1 : ¬ 9223372036854775807 < 1 + (ws.size + nm.size) := by have := HNL.out; have := HWZ.out; omega
   have q2 : ¬ 9223372036854775807 < 1 + (ws.size + nm.size) + 1 := by have := HNL.out; have := HWZ.out; omega
   go_wp2
   refine bodyPost_ret (v := .string (⟨#[60]⟩ ++ (ws ++ nm) ++ ⟨#[62]⟩)) ?_ ?_ ?_
   ·
    simp [results, Tryz.results166, go_sem]
   ·
    rfl
   refine ⟨?_, ?_⟩
   ·
    rw [PLH.out, HW3.out, HNM.out]; first | (congr 2; done) | (congr 2; apply ByteArray.ext; simp)
   replace S := S.out
   rw [HBB.out, HBS.out] at S
   exact S.tail.tail
  | false =>
   have HNM := Lib.hid hnk
   clear hnk
   have KS : QuietC w bB 199 #[.string ws, .string ⟨#[32]⟩] (.bool false) := Lib.hid fun W Q T => by
    exact (Tryz.strings_HasSuffix ws ⟨#[32]⟩ W (by have := HWZ.out; omega)).mono fun e W' ⟨e1, e2⟩ => ⟨by rw [e1, ← HNM.out, ← HE2.out], e2 ▸ T⟩
   go_upto_region 16 with fail
   refine regionL (E := []) (base := bB) S.out ?_
   clear S
   refine qa ?_
   refine qa (v := .bool false) (hy := fun E Wx hSw => by (go_simp; rw [HNE.out]; exact ⟨rfl, hSw⟩)) (h := ?_)
   iterate 2 refine qa ?_
   refine qk KS ?_
   refine qa ?_
   refine doneL (h := fun w7 S => ?_)
   replace S := Lib.hid S
   have q1 : ¬ 9223372036854775807 < 1 + ws.size := by have := HWZ.out; omega
   have q2 : ¬ 9223372036854775807 < 1 + ws.size + 1 := by have := HWZ.out; omega
   go_wp2
   refine bodyPost_ret (v := .string (⟨#[60]⟩ ++ ws ++ ⟨#[62]⟩)) ?_ ?_ ?_
   ·
    simp [results, Tryz.results166, go_sem]
   ·
    rfl
   refine ⟨?_, ?_⟩
   ·
    rw [PLH.out, HW3.out, HNM.out]; first | (congr 2; done) | (congr 2; apply ByteArray.ext; simp)
   replace S := S.out
   rw [HBB.out, HBS.out] at S
   exact S.tail.tail
end
end Go.Proofs.YtijlebhoapdfnaaGreat
