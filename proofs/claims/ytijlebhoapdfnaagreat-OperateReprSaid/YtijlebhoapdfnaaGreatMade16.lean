/- ch 16: made. -/
import Derived.Test.YtijlebhoapdfnaaGreatOprE
import Derived.Test.YtijlebhoapdfnaaGreatRef2
import Derived.Test.YtijlebhoapdfnaaGreatRegS
import Derived.Test.YtijlebhoapdfnaaGreatRows3
import Derived.Test.YtijlebhoapdfnaaGreatOprC
/- ch 16: rows of values in a symbolic run. -/
namespace Go.Proofs.YtijlebhoapdfnaaGreat
set_option linter.unusedSimpArgs false
open Go.RowKit
set_option linter.unusedVariables false
section
variable {w W : World} {Rs : List Res} {h : Nat} {H : HeapM}
theorem SeesV.rows {sv : Value} {l : List V} (h : SeesV W sv l) : SeesR V.cells 3 W sv l := by
 obtain ⟨a, c, h1, h2, h3, h4⟩ := h
 refine ⟨a, c, h1, h2, h3, ?_⟩
 rcases h4 with h4 | ⟨g, o, h5, h6⟩
 ·
  exact .inl h4
 ·
  refine .inr ⟨g, o, h5, fun i p hp j u hu => ?_⟩
  obtain ⟨c0, c1, c2⟩ := h6 i p hp
  match j, hu with
  | 0, hu => simp [V.cells] at hu; subst hu; exact c0
  | 1, hu => simp [V.cells] at hu; subst hu; exact c1
  | 2, hu => simp [V.cells] at hu; subst hu; exact c2
  | j + 3, hu => simp [V.cells] at hu
theorem SeesR.vals {sv : Value} {l : List V} (h : SeesR V.cells 3 W sv l) : SeesV W sv l := by
 obtain ⟨a, c, h1, h2, h3, h4⟩ := h
 refine ⟨a, c, h1, h2, h3, ?_⟩
 rcases h4 with h4 | ⟨g, o, h5, h6⟩
 ·
  exact .inl h4
 ·
  exact .inr ⟨g, o, h5, fun i p hp => ⟨h6 i p hp 0 _ rfl, h6 i p hp 1 _ rfl, h6 i p hp 2 _ rfl⟩⟩
/-- A row and what is appended to it. -/
theorem Sep.appendV (S : Sep w Rs W) (j : Nat) {a : Option Addr} {n c : Nat} {xs : List V} (hj : Rs[j]? = some (valsR (.slice a n c) xs)) (hn : xs.length = n) {sv : Value} {ys : List V} (hs : SeesV W sv ys) (m : Nat) (hm : n + ys.length = m) (hlen : m ≤ 9000000) :
  ∃ va vc w2, (Builtin.append_ #[56, 56] 56 #[.slice a n c, sv]).run Tryz.prog W = .ok (.slice va m vc) w2 ∧ Sep w (Rs.set j (valsR (.slice va m vc) (xs ++ ys))) w2 := by
 subst hn hm
 exact run_append_rows (f := V.cells) 56 24 56 Tryz.underlying56 _ _ info_val rfl (by decide) (by decide) V.cells_len (fun p u hu => by simp [V.cells] at hu; rcases hu with rfl | rfl | rfl <;> rfl) S j hj _ ys hs.rows hlen
theorem same_at (S : Sep w Rs W) {s t : Value} {l m : List V} (hs : SeesV W s l) (ht : SeesV W t m) (hlm : l = m) : Calls Tryz.prog 77 #[s, t] W fun e W' => e = .returned (.bool true) ∧ Sep w Rs W' :=
 (same_vals W s t l m hs ht).mono fun e W' ⟨e1, n, e2⟩ => ⟨by rw [e1, decide_eq_true hlm], by rw [e2]; exact S.drewN n⟩
theorem Sep.seesV (S : Sep w Rs W) {sv : Value} {l : List V} (j : Nat) (hj : Rs[j]? = some (valsR sv l)) : SeesV W sv l := (S.row j hj).sees'
/-- A row has a place, if anything is in it. -/
theorem SeesV.some_at {a : Option Addr} {n c : Nat} {l : List V} (hs : SeesV W (.slice a n c) l) (hl : 0 < l.length) : ∃ g o, a = some ⟨g, o, none⟩ := by
 obtain ⟨x, hx⟩ : ∃ x, l[0]? = some x := ⟨l[0], by simp [hl]⟩
 obtain ⟨g, o, e, _⟩ := hs.three hx
 exact ⟨g, o, e⟩
/-- A row of one's own begins its block. -/
theorem Sep.rowAt (S : Sep w Rs W) (j : Nat) {a : Option Addr} {n c : Nat} {l : List V} (hj : Rs[j]? = some (valsR (.slice a n c) l)) (hl : 0 < l.length) : ∃ g, a = some ⟨g, 0, none⟩ := by
 rcases (S.row j hj).shape with ⟨_, h1⟩ | ⟨g, cap, e, _⟩
 ·
  rw [h1] at hl; simp at hl
 ·
  obtain ⟨e1, _, _⟩ := Value.slice.inj e
  exact ⟨g, e1⟩
theorem byte_range {t : Int} (h : (Lit.int .u8 t).wf = true) : 0 ≤ t ∧ t ≤ 255 := by
 simp [Lit.wf, IntKind.min, IntKind.max, IntKind.bits, IntKind.signed] at h
 omega
theorem rest_of {t : Int} (ht : 0 ≤ t) {n : Nat} (hn : 0 < n) : ∃ p : Nat, t.tmod (n : Int) = (p : Int) ∧ p < n := by
 have a := Int.tmod_nonneg (n : Int) ht
 have b := Int.tmod_lt_of_pos t (show (0 : Int) < n by omega)
 exact ⟨(t.tmod (n : Int)).toNat, (Int.toNat_of_nonneg a).symm, by
  have c := Int.toNat_of_nonneg a
  generalize t.tmod (n : Int) = z at *
  omega⟩
theorem SeesV.head {g o n c : Nat} {l : List V} (h : SeesV W (.slice (some ⟨g, o, none⟩) n c) l) {p : Nat} (hp : p ≤ n) : SeesV W (.slice (some ⟨g, o, none⟩) p c) (l.take p) := by
 obtain ⟨a, c', e, h1, h2, h3⟩ := h
 obtain ⟨e1, e2, e3⟩ := Value.slice.inj e
 subst e1 e2 e3
 have hl : (l.take p).length = p := by rw [List.length_take]; omega
 refine ⟨_, _, by rw [hl], by rw [hl]; omega, h2, ?_⟩
 rcases h3 with h3 | ⟨g', o', h4, h5⟩
 ·
  left; rw [h3]; simp
 ·
  right
  refine ⟨g', o', h4, fun i v hv => h5 i v ?_⟩
  rw [List.getElem?_take] at hv
  split at hv
  ·
   exact hv
  ·
   cases hv
end
end Go.Proofs.YtijlebhoapdfnaaGreat
/- The reference's Make, Put and Replace at any place. -/
namespace Go.Proofs.YtijlebhoapdfnaaGreat
set_option linter.unusedSimpArgs false
open Go.RowKit
set_option linter.unusedVariables false
section
variable {w W : World} {Rs : List Res} {r : Nat} {H : HeapM}
theorem Sep.yMake (S : Sep w Rs W) (i : Nat) (hi : Rs[i]? = some (refR r H)) {N : Nat} (G : H.Good N) (o : ObjM) (hp : o.pairs = []) (hk1 : 1 ≤ o.kind) (hk2 : o.kind ≤ 12) (sv : Value) (hs : ∀ W1, Sep w (Rs.eraseIdx i) W1 → SeesV W1 sv o.items) (hN : N ≤ 4000000) (hlen : o.items.length ≤ 4000000) :
  Calls Tryz.prog 41 #[.pointer (some ⟨r, 0, none⟩), .int .i64 o.kind, .string o.name, .int .i64 o.num, sv] W fun e W' => e = .returned (.agg #[.int .i64 4, .int .i64 (H.last + 1), .string ⟨#[]⟩]) ∧ Sep w (Rs.set i (refR r (H.add o))) W' := by
 have S0 : Sep w (refR r H :: Rs.eraseIdx i) W := S.perm (perm_pull hi)
 exact (ref_make S0 G o hp hk1 hk2 sv hs hN hlen).mono fun e W' ⟨e1, e2⟩ => ⟨e1, e2.perm (perm_push hi).symm⟩
theorem Sep.yPut (S : Sep w Rs W) (i : Nat) (hi : Rs[i]? = some (refR r H)) {N : Nat} (F : H.Fit N) (v k x : V) :
  Calls Tryz.prog 44 #[.pointer (some ⟨r, 0, none⟩), v.val, k.val, x.val] W fun e W' => e = .returned (.bool (H.canPut v k)) ∧ Sep w (Rs.set i (refR r (H.put v k x))) W' := by
 have S0 : Sep w (refR r H :: Rs.eraseIdx i) W := S.perm (perm_pull hi)
 exact (ref_put S0 F.G.ok.nk F.P v k x).mono fun e W' ⟨e1, e2⟩ => ⟨e1, e2.perm (perm_push hi).symm⟩
theorem Sep.yReplace (S : Sep w Rs W) (i : Nat) (hi : Rs[i]? = some (refR r H)) {N : Nat} (G : H.Good N) (v : V) (p q : Int) (sv : Value) (l : List V) (hs : ∀ W1, Sep w (Rs.eraseIdx i) W1 → SeesV W1 sv l) (hN : N + l.length ≤ 4000000) :
  Calls Tryz.prog 42 #[.pointer (some ⟨r, 0, none⟩), v.val, .int .i64 p, .int .i64 q, sv] W fun e W' => e = .returned (.bool (H.canReplace v p q)) ∧ Sep w (Rs.set i (refR r (H.replace v p q l))) W' := by
 have S0 : Sep w (refR r H :: Rs.eraseIdx i) W := S.perm (perm_pull hi)
 exact (ref_replace S0 G v p q sv l hs hN).mono fun e W' ⟨e1, e2⟩ => ⟨e1, e2.perm (perm_push hi).symm⟩
theorem refNew {w W : World} {Rs : List Res} (S : Sep w Rs W) : Sep w (refR W.heap.size ⟨[], 0⟩ :: Rs) (W.alloc (.cells #[.slice none 0 0, .int .i64 0] 59)) := by
 have h1 := S.addRow (Below.refl _ _) (e := 102) (m := 1) (f := RRow.ptr) (v := .slice none 0 0) (l := []) (World.ownsRow_nil _ _ _ _) (by simp [Value.ownBlock])
 have h2 := h1.alloc (.cells #[.slice none 0 0, .int .i64 0] 59)
 exact Sep.shutRef (H := ⟨[], 0⟩) (rows := []) (sv := .slice none 0 0) h2 rfl
end
end Go.Proofs.YtijlebhoapdfnaaGreat
/- ch 16: a heap of rows, one behind the other. -/
namespace Go.Proofs.YtijlebhoapdfnaaGreat
set_option linter.unusedSimpArgs false
open Go.RowKit
set_option linter.unusedVariables false
/-- A heap of these objects, numbered from 1. -/
def HX (os : List ObjM) : HeapM := os.foldl HeapM.add ⟨[], 0⟩
/-- The value of number n. -/
def vX (n : Int) (h : (Lit.int .i64 n).wf = true) : V := ⟨4, n, ⟨#[]⟩, by decide, h, by decide⟩
/-- All of them have 40 values at most. -/
def HXG (os : List ObjM) : Prop := ∀ o ∈ os, o.vals.length ≤ 40
theorem HXG.nil : HXG [] := fun o h => by cases h
section
variable (k : Int) (hk : okI k) (a b c : List V) (j : Int) (hj : okI j)
example : (HX [rowO k hk a, rowO j hj b, rowO k hk c]).items (vX 2 (by decide)) = b := rfl
example : (HX [rowO k hk a, rowO j hj b, rowO k hk c]).kind (vX 3 (by decide)) = k := rfl
end
end Go.Proofs.YtijlebhoapdfnaaGreat
set_option maxRecDepth 100000
set_option maxHeartbeats 12800000
namespace Go.Proofs.YtijlebhoapdfnaaGreat
set_option linter.unusedSimpArgs false
open Go.RowKit
set_option linter.unusedVariables false
theorem seesV_nl (W : World) : SeesV W (.slice none 0 0) [] := ⟨none, 0, rfl, Nat.le_refl _, by unfold maxLen; omega, .inl rfl⟩
theorem lref_v (W : World) (v : V) (h4 : v.kind = 4) (hs : v.s = ⟨#[]⟩) : Calls Tryz.prog 29 #[.int .i64 v.n] W fun e W' => e = .returned (.agg #[.int .i64 v.kind, .int .i64 v.n, .string v.s]) ∧ Below W.heap.size W W' := by
 rw [h4, hs]
 obtain ⟨n, hn⟩ : ∃ n, n = v.n := ⟨_, rfl⟩
 rw [← hn]
 clear hn h4 hs
 go_enter Tryz.func29, Tryz.ntmps29
 go_wp2
 exact bodyPost_ret (v := .agg #[.int .i64 4, .int .i64 n, .string ⟨#[]⟩]) (by simp [results, Tryz.results29, go_sem]) rfl ⟨rfl, by exact belowA⟩
attribute [local irreducible] wpSeqS wpAnyS wpPreS
section
variable {w W : World} {Rs : List Res}
theorem made16_ok (S : Sep w Rs W) (sl : Value) (l : List ObjI) (hs : SeesO w sl l) : Calls Tryz.prog 8 #[sl] W fun e W' => ∃ h y : Nat, e = .returned (.tuple #[.pointer (some ⟨h, 0, none⟩), .pointer (some ⟨y, 0, none⟩)]) ∧ Sep w (heapR h (madeO l) :: refR y (madeO l) :: Rs) W' := by
 obtain ⟨L, hL⟩ : ∃ L, L = l.take 8 := ⟨_, rfl⟩
 have hO : madeO l = madeB L L.length := by unfold madeO; rw [← hL]
 rw [hO]
 have hn8 : L.length ≤ 8 := by rw [hL, List.length_take]; omega
 have hnl : L.length ≤ l.length := by rw [hL, List.length_take]; omega
 have hat : ∀ (i : Nat) (p : ObjI), L[i]? = some p → l[i]? = some p := fun i p hp => by
  rw [hL, List.getElem?_take] at hp; split at hp <;> first | exact hp | cases hp
 have hinL : ∀ p ∈ L, p.In w := fun p hp => hs.2 p (by rw [hL] at hp; exact List.mem_of_mem_take hp)
 obtain ⟨⟨a0, c0, rfl, q1, q2, q3⟩, hin⟩ := hs
 have hll : (l.length : Int) ≤ 9223372036854775807 := by unfold maxLen at q2; omega
 have he : (if (8 : Int) < (l.length : Int) then (8 : Int) else (l.length : Int)) = (L.length : Int) := by rw [hL, List.length_take]; split <;> omega
 have he2 : min (l.length : Int) 8 = (L.length : Int) := by rw [hL, List.length_take]; omega
 have HQ := Lib.hid q3
 have HAT := Lib.hid hat
 have HIN := Lib.hid hinL
 have HN8 := Lib.hid (And.intro hn8 hnl)
 have FA : Hid (∀ k, (madeA (L.take k)).Fit 200) := Lib.hid fun k => (madeA_fit (w := w) (L.take k) fit_empty (fun p hp => hinL p (List.mem_of_mem_take hp))).more (by rw [List.length_take]; omega)
 have FB : Hid (∀ k, k ≤ 8 → (madeB L k).Fit 200) := Lib.hid fun k hk => madeB_fit' hn8 hinL hk
 clear hL hO q1 q2 q3 hin hat hinL hn8 hnl
 have M := Lib.hid S.new
 clear S
 go_enter Tryz.func8, Tryz.ntmps8
 go_wp2_with fail
 refine M.out.mono ?_
 rintro e w1 ⟨h, rfl, S, -⟩
 clear M
 replace S : Sep w (heapR h ⟨[], 0⟩ :: Rs) w1 := S
 refine named (heapR h ⟨[], 0⟩ :: Rs : List Res) fun b2_2 hb2_2 => ?_
 have Hb2_2 := Lib.hid hb2_2
 have Kb2_2 : Hid (∀ W (Q : List Res), Sep w (Q ++ b2_2) W → True) := Lib.hid fun W Q T => by
  rw [hb2_2] at T
  trivial
 replace S := Lib.hid S
 clear hb2_2
 go_upto_region 2 with fail
 have S1 : Sep w ([] ++ b2_2) (w1) := by rw [Hb2_2.out]; exact S.out
 clear S
 refine regionL (E := [emptyR]) (base := b2_2) (Sep.putE S1) ?_
 clear S1
 refine qa ?_
 refine stepL (fun v E1 => ∃ (q_4_1 : Nat), v = .pointer (some ⟨q_4_1, 0, none⟩) ∧ E1 = [refR q_4_1 ⟨[], 0⟩]) (h1 := fun Wx hSw => by (go_simp; exact ⟨_, ⟨_, rfl, rfl⟩, (refNew hSw).into 0 rfl⟩)) (h2 := fun v E1 hvE => ?_)
 obtain ⟨q_4_1, rfl, rfl⟩ := hvE; simp only [Act.put, pa]; try dsimp only [List.set]
 refine qa ?_
 refine doneL (h := fun w4 S => ?_)
 replace S : Sep w (refR q_4_1 ⟨[], 0⟩ :: heapR h ⟨[], 0⟩ :: Rs) w4 := by rw [Hb2_2.out] at S; exact S
 clear Hb2_2 Kb2_2
 refine named (refR q_4_1 ⟨[], 0⟩ :: heapR h ⟨[], 0⟩ :: Rs : List Res) fun b3_4 hb3_4 => ?_
 have Hb3_4 := Lib.hid hb3_4
 have Kb3_4 : Hid (∀ W (Q : List Res), Sep w (Q ++ b3_4) W → True) := Lib.hid fun W Q T => by
  rw [hb3_4] at T
  trivial
 replace S := Lib.hid S
 clear hb3_4
 go_upto_region 3 with fail
 have S1 : Sep w ([] ++ b3_4) (w4) := by rw [Hb3_4.out]; exact S.out
 clear S
 refine regionL (E := []) (base := b3_4) S1 ?_
 clear S1
 iterate 2 refine qa ?_
 refine qa (v := .int .i64 L.length) (hy := fun E Wx hSw => by (go_simp; exact ⟨rfl, hSw⟩)) (h := ?_)
 refine qa ?_
 refine doneL (h := fun w6 S => ?_)
 replace S : Sep w (refR q_4_1 ⟨[], 0⟩ :: heapR h ⟨[], 0⟩ :: Rs) w6 := by rw [Hb3_4.out] at S; exact S
 clear Hb3_4 Kb3_4
 clear he he2
 replace S := Lib.hid S
 go_wp2
 go_loopw [7] (fun s7 wr => ∃ k : Nat, k ≤ L.length ∧ s7 = .int .i64 k ∧ Sep w ([heapR h (madeA (L.take k)), refR q_4_1 (madeA (L.take k))] ++ Rs) wr) (fun s7 _ => L.length - (intOf s7).toNat)
 case atStart => exact ⟨0, Nat.zero_le _, rfl, S.out.perm (List.Perm.swap _ _ _)⟩
 case round =>
  obtain ⟨k, hk, rfl, S⟩ := hrel
  have HK := Lib.hid hk
  by_cases hlt : k < L.length
  ·
   obtain ⟨p, hp⟩ : ∃ p, L[k]? = some p := ⟨L[k], by simp [hlt]⟩
   have hpl := HAT.out k p hp
   obtain ⟨g, og, rfl, hc⟩ : ∃ g og, a0 = some ⟨g, og, none⟩ ∧ ∀ i (p : ObjI), l[i]? = some p → ∀ (j : Nat) (u : Value), p.cells[j]? = some u → w.cell? ⟨g, og + i * 3 + j, none⟩ = some u := by
    rcases HQ.out with e | e
    ·
     subst e; simp at hpl
    ·
     exact e
   have hpin := HIN.out p (List.mem_iff_getElem?.2 ⟨_, hp⟩)
   have HPIN := Lib.hid hpin
   have HPP := Lib.hid hp
   have hlt1 : (k : Int) < L.length := by omega
   have hlt2 : (k : Int) < l.length := by have := HN8.out; omega
   have H0 := Lib.hid (hc k p hpl 0 (.int .u8 p.kind) rfl)
   obtain ⟨m, hm, hmb⟩ := rest_of (n := 12) (byte_range hpin.1).1 (by decide)
   replace hm : p.kind.tmod 12 = (m : Int) := hm
   have hw1 : IntKind.i64.wrap (m : Int) = (m : Int) := IntWalk.i64_in _ (by omega)
   have hw2 : IntKind.i64.wrap (1 + (m : Int)) = kindO p := by unfold kindO; rw [hm]; exact IntWalk.i64_in _ (by omega)
   have HNX := Lib.hid (madeA_next hp)
   have HLT := Lib.hid hlt
   have HKI := Lib.hid (kindO_in hpin)
   clear hk hpl hc hpin hmb hp hlt
   replace S : Sep w (heapR h (madeA (L.take k)) :: refR q_4_1 (madeA (L.take k)) :: Rs) wr := S
   refine named (heapR h (madeA (L.take k)) :: refR q_4_1 (madeA (L.take k)) :: Rs : List Res) fun b7_20 hb7_20 => ?_
   have Hb7_20 := Lib.hid hb7_20
   have Kb7_20 : Hid (∀ W (Q : List Res), Sep w (Q ++ b7_20) W → True) := Lib.hid fun W Q T => by
    rw [hb7_20] at T
    trivial
   have B0 : Hid (∀ W (Q : List Res), Sep w (Q ++ b7_20) W → W.cell? ⟨g, og + k * 3, none⟩ = some (.int .u8 p.kind)) := Lib.hid fun W Q T => cellBelow H0.out T.below
   replace S := Lib.hid S
   clear hb7_20
   go_upto_region 7 with fail
   have S1 : Sep w ([] ++ b7_20) (wr) := by rw [Hb7_20.out]; exact S.out
   clear S
   refine regionL (E := []) (base := b7_20) S1 ?_
   clear S1
   iterate 4 refine qa ?_
   refine qc B0 ?_
   iterate 4 refine qa ?_
   refine doneL (h := fun w22 S => ?_)
   replace S : Sep w (heapR h (madeA (L.take k)) :: refR q_4_1 (madeA (L.take k)) :: Rs) w22 := by rw [Hb7_20.out] at S; exact S
   clear Hb7_20 Kb7_20 B0
   clear hm hw1 hw2
   refine named (heapR h (madeA (L.take k)) :: refR q_4_1 (madeA (L.take k)) :: Rs : List Res) fun b8_22 hb8_22 => ?_
   have Hb8_22 := Lib.hid hb8_22
   have Kb8_22 : Hid (∀ W (Q : List Res), Sep w (Q ++ b8_22) W → True) := Lib.hid fun W Q T => by
    rw [hb8_22] at T
    trivial
   replace S := Lib.hid S
   clear hb8_22
   go_upto_region 8 with fail
   have S1 : Sep w ([] ++ b8_22) (w22) := by rw [Hb8_22.out]; exact S.out
   clear S
   refine regionL (E := []) (base := b8_22) S1 ?_
   clear S1
   iterate 2 refine qa ?_
   refine doneL (h := fun w24 S => ?_)
   replace S : Sep w (heapR h (madeA (L.take k)) :: refR q_4_1 (madeA (L.take k)) :: Rs) w24 := by rw [Hb8_22.out] at S; exact S
   clear Hb8_22 Kb8_22
   replace S : Sep w (heapR h (madeA (L.take k)) :: refR q_4_1 (madeA (L.take k)) :: Rs) (w24) := by
    refine (show Sep w ([heapR h (madeA (L.take k)), refR q_4_1 (madeA (L.take k))] ++ Rs) _ from S).perm ?_
    exact List.Perm.append_right Rs (perm_of (l := [heapR h (madeA (L.take k)), refR q_4_1 (madeA (L.take k))]) [0, 1] (by show (List.range' 0 2).Perm [0, 1]; decide) (by rfl))
   refine named (refR q_4_1 (madeA (L.take k)) :: Rs : List Res) fun b9_24 hb9_24 => ?_
   have Hb9_24 := Lib.hid hb9_24
   have Kb9_24 : Hid (∀ W (Q : List Res), Sep w (Q ++ b9_24) W → True) := Lib.hid fun W Q T => by
    rw [hb9_24] at T
    trivial
   replace S := Lib.hid S
   clear hb9_24
   go_upto_region 9 with fail
   have S1 : Sep w ([heapR h (madeA (L.take k))] ++ b9_24) (w24) := by rw [Hb9_24.out]; exact S.out
   clear S
   refine regionL (E := [heapR h (madeA (L.take k))]) (base := b9_24) S1 ?_
   clear S1
   iterate 2 refine qa ?_
   refine qd (.agg #[.int .i64 4, .int .i64 ((madeA (L.take k)).last + 1), .string ⟨#[]⟩]) [heapR h (madeA (L.take (k + 1)))] (h1 := fun Wx hSw => by (go_simp; refine symCall ?_; have hh := hSw.make 0 rfl (FA.out k).G (by decide) (nmO p) (.slice none 0 0) (seesV_nl _) (show 0 ≤ 4194304 by decide) rfl HKI.out.1 HKI.out.2; rw [← HNX.out] at hh; exact hh)) (h2 := ?_)
   refine doneL (h := fun w26 S => ?_)
   replace S : Sep w (heapR h (madeA (L.take (k + 1))) :: refR q_4_1 (madeA (L.take k)) :: Rs) w26 := by rw [Hb9_24.out] at S; exact S
   clear Hb9_24 Kb9_24
   replace S : Sep w (refR q_4_1 (madeA (L.take k)) :: heapR h (madeA (L.take (k + 1))) :: Rs) (w26) := by
    refine (show Sep w ([heapR h (madeA (L.take (k + 1))), refR q_4_1 (madeA (L.take k))] ++ Rs) _ from S).perm ?_
    exact List.Perm.append_right Rs (perm_of (l := [heapR h (madeA (L.take (k + 1))), refR q_4_1 (madeA (L.take k))]) [1, 0] (by show (List.range' 0 2).Perm [1, 0]; decide) (by rfl))
   refine named (heapR h (madeA (L.take (k + 1))) :: Rs : List Res) fun b10_26 hb10_26 => ?_
   have Hb10_26 := Lib.hid hb10_26
   have Kb10_26 : Hid (∀ W (Q : List Res), Sep w (Q ++ b10_26) W → True) := Lib.hid fun W Q T => by
    rw [hb10_26] at T
    trivial
   replace S := Lib.hid S
   clear hb10_26
   go_upto_region 10 with fail
   have S1 : Sep w ([refR q_4_1 (madeA (L.take k))] ++ b10_26) (w26) := by rw [Hb10_26.out]; exact S.out
   clear S
   refine regionL (E := [refR q_4_1 (madeA (L.take k))]) (base := b10_26) S1 ?_
   clear S1
   iterate 2 refine qa ?_
   refine qd (.agg #[.int .i64 4, .int .i64 ((madeA (L.take k)).last + 1), .string ⟨#[]⟩]) [refR q_4_1 (madeA (L.take (k + 1)))] (h1 := fun Wx hSw => by (go_simp; refine symCall ?_; have hh := hSw.yMake 0 rfl (FA.out k).G (nmO p) rfl HKI.out.1 HKI.out.2 (.slice none 0 0) (fun W1 _ => seesV_nl W1) (by decide) (show 0 ≤ 4000000 by decide); rw [← HNX.out] at hh; exact hh)) (h2 := ?_)
   refine doneL (h := fun w28 S => ?_)
   replace S : Sep w (refR q_4_1 (madeA (L.take (k + 1))) :: heapR h (madeA (L.take (k + 1))) :: Rs) w28 := by rw [Hb10_26.out] at S; exact S
   clear Hb10_26 Kb10_26
   replace S : Sep w ([heapR h (madeA (L.take (k + 1))), refR q_4_1 (madeA (L.take (k + 1)))] ++ Rs) (w28) := by
    refine (show Sep w ([refR q_4_1 (madeA (L.take (k + 1))), heapR h (madeA (L.take (k + 1)))] ++ Rs) _ from S).perm ?_
    exact List.Perm.append_right Rs (perm_of (l := [refR q_4_1 (madeA (L.take (k + 1))), heapR h (madeA (L.take (k + 1)))]) [1, 0] (by show (List.range' 0 2).Perm [1, 0]; decide) (by rfl))
   have hi1 : IntKind.i64.wrap ((k : Int) + 1) = (k : Int) + 1 := IntWalk.i64_in _ (by have := HN8.out; omega)
   replace S := Lib.hid S
   go_wp2
   exact ⟨⟨k + 1, HLT.out, by go_num, S.out⟩, by have := HLT.out; simp [intOf]; omega⟩
  ·
   obtain rfl : k = L.length := by omega
   have hnot : ¬ ((L.length : Int) < L.length) := by omega
   rw [List.take_length] at S
   clear hlt hk HK
   replace S : Sep w ([heapR h (madeB L 0), refR q_4_1 (madeB L 0)] ++ Rs) wr := S
   replace S := Lib.hid S
   go_wp2
   go_loopw [9] (fun s9 wr => ∃ i : Nat, i ≤ L.length ∧ s9 = .int .i64 i ∧ Sep w ([heapR h (madeB L i), refR q_4_1 (madeB L i)] ++ Rs) wr) (fun s9 _ => L.length - (intOf s9).toNat)
   case atStart => exact ⟨0, Nat.zero_le _, rfl, S.out⟩
   case round =>
    obtain ⟨i, hi, rfl, S⟩ := hrel
    by_cases hlt : i < L.length
    ·
     obtain ⟨p, hp⟩ : ∃ p, L[i]? = some p := ⟨L[i], by simp [hlt]⟩
     have hpl := HAT.out i p hp
     obtain ⟨g, og, rfl, hc⟩ : ∃ g og, a0 = some ⟨g, og, none⟩ ∧ ∀ i (p : ObjI), l[i]? = some p → ∀ (j : Nat) (u : Value), p.cells[j]? = some u → w.cell? ⟨g, og + i * 3 + j, none⟩ = some u := by
      rcases HQ.out with e | e
      ·
       subst e; simp at hpl
      ·
       exact e
     have hpin := HIN.out p (List.mem_iff_getElem?.2 ⟨_, hp⟩)
     have HPIN := Lib.hid hpin
     have HPP := Lib.hid hp
     have hlt1 : (i : Int) < L.length := by omega
     have hlt2 : (i : Int) < l.length := by have := HN8.out; omega
     obtain ⟨ia, ic, hiv, hi1, hi2, hi3⟩ := hpin.2.1
     obtain ⟨pad, pc, hpv, hp1, hp2, hp3⟩ := hpin.2.2
     have H1 := Lib.hid (show w.cell? ⟨g, og + i * 3 + 1, none⟩ = some (.slice ia p.items.length ic) by rw [← hiv]; exact hc i p hpl 1 _ rfl)
     have H2 := Lib.hid (show w.cell? ⟨g, og + i * 3 + 2, none⟩ = some (.slice pad p.pairs.length pc) by rw [← hpv]; exact hc i p hpl 2 _ rfl)
     have HI3 := Lib.hid hi3
     have HP3 := Lib.hid hp3
     have hil : (p.items.length : Int) ≤ 9223372036854775807 := by unfold maxLen at hi2; omega
     have hpll : (p.pairs.length : Int) ≤ 9223372036854775807 := by unfold maxLen at hp2; omega
     obtain ⟨v, hv⟩ : ∃ v, v = numV i := ⟨_, rfl⟩
     have hv4 : v.kind = 4 := by rw [hv]; rfl
     have hvs : v.s = ⟨#[]⟩ := by rw [hv]; rfl
     have hvn : v.n = (i : Int) + 1 := by rw [hv]; show ((i % 16 : Nat) : Int) + 1 = _; have := HN8.out; omega
     have hwi : IntKind.i64.wrap ((i : Int) + 1) = v.n := by rw [hvn]; exact IntWalk.i64_in _ (by have := HN8.out; omega)
     have HV := Lib.hid (And.intro hv4 hvs)
     have HNX : Hid (madeB L (i + 1) = fillM (madeB L i) v p) := Lib.hid (by rw [hv]; exact madeB_next hp)
     have FI := Lib.hid (FB.out i (by have := HN8.out; omega))
     have HLT := Lib.hid hlt
     clear hi hpl hc hpin hiv hi1 hi2 hi3 hpv hp1 hp2 hp3 hp hlt hv hv4 hvs hvn
     replace S : Sep w (heapR h (madeB L i) :: refR q_4_1 (madeB L i) :: Rs) wr := S
     refine named (heapR h (madeB L i) :: refR q_4_1 (madeB L i) :: Rs : List Res) fun b14_100 hb14_100 => ?_
     have Hb14_100 := Lib.hid hb14_100
     have Kb14_100 : Hid (∀ W (Q : List Res), Sep w (Q ++ b14_100) W → True) := Lib.hid fun W Q T => by
      rw [hb14_100] at T
      trivial
     have K14_2 : QuietC w b14_100 29 #[.int .i64 v.n] (.agg #[.int .i64 v.kind, .int .i64 v.n, .string v.s]) := Lib.hid fun W Q T => by
      exact (lref_v W v HV.out.1 HV.out.2).mono fun e W' ⟨e1, e2⟩ => ⟨e1, T.later e2⟩
     replace S := Lib.hid S
     clear hb14_100
     go_upto_region 14 with fail
     have S1 : Sep w ([] ++ b14_100) (wr) := by rw [Hb14_100.out]; exact S.out
     clear S
     refine regionL (E := [emptyR]) (base := b14_100) (Sep.putE S1) ?_
     clear S1
     iterate 2 refine qa ?_
     refine qk K14_2 ?_
     refine allocL 0 rfl (fun q => .pointer (some ⟨q, 0, none⟩)) (.cells #[.int .i64 0, .int .i64 0, .string ⟨#[]⟩] 24) (h1 := fun Wx => by go_simp) (h2 := fun qv101 => ?_); simp only [Act.put, pa]; try dsimp only [List.set]
     try simp only [List.set_cons_zero, List.set_cons_succ]
     refine qd undef [boxV qv101 v] (h1 := fun Wx hSw => by (have hz := hSw.box (b := qv101) (o := objZ) 0 rfl; refine useZ3 hz fun z0 z1 z2 y0 y1 y2 => ?_; go_simp; exact ⟨rfl, hSw.set3 0 rfl (.int .i64 v.kind) (.int .i64 v.n) (.string v.s)⟩)) (h2 := ?_)
     refine doneL (h := fun w102 S => ?_)
     replace S : Sep w (boxV qv101 v :: heapR h (madeB L i) :: refR q_4_1 (madeB L i) :: Rs) w102 := by rw [Hb14_100.out] at S; exact S
     clear Hb14_100 Kb14_100 K14_2
     clear hwi
     refine named (boxV qv101 v :: heapR h (madeB L i) :: refR q_4_1 (madeB L i) :: Rs : List Res) fun b15_102 hb15_102 => ?_
     have Hb15_102 := Lib.hid hb15_102
     have Kb15_102 : Hid (∀ W (Q : List Res), Sep w (Q ++ b15_102) W → True) := Lib.hid fun W Q T => by
      rw [hb15_102] at T
      trivial
     replace S := Lib.hid S
     clear hb15_102
     go_upto_region 15 with fail
     have S1 : Sep w ([] ++ b15_102) (w102) := by rw [Hb15_102.out]; exact S.out
     clear S
     refine regionL (E := [emptyR]) (base := b15_102) (Sep.putE S1) ?_
     clear S1
     refine stepL (fun v E1 => ∃ (q_104_1 : Nat), v = .slice (some ⟨q_104_1, 0, none⟩) 0 0 ∧ E1 = [valsR (.slice (some ⟨q_104_1, 0, none⟩) 0 0) []]) (h1 := fun Wx hSw => by (go_simp; exact ⟨_, ⟨_, rfl, rfl⟩, (hSw.madeRow V.cells 3 24).into 0 rfl⟩)) (h2 := fun v E1 hvE => ?_)
     obtain ⟨q_104_1, rfl, rfl⟩ := hvE; simp only [Act.put, pa]; try dsimp only [List.set]
     refine qa ?_
     refine doneL (h := fun w104 S => ?_)
     replace S : Sep w (valsR (.slice (some ⟨q_104_1, 0, none⟩) 0 0) [] :: boxV qv101 v :: heapR h (madeB L i) :: refR q_4_1 (madeB L i) :: Rs) w104 := by rw [Hb15_102.out] at S; exact S
     clear Hb15_102 Kb15_102
     replace S := Lib.hid S
     go_wp2
     go_loopw [11, 12] (fun s11 s12 wr => ∃ (k : Nat) (a : Option Addr) (cp : Nat), Hid (k ≤ p.items.length ∧ k ≤ 6) ∧ s11 = .slice a k cp ∧ s12 = .int .i64 k ∧ Sep w ([valsR (.slice a k cp) ((p.items.take k).map plainV), boxV qv101 v, heapR h (madeB L i), refR q_4_1 (madeB L i)] ++ Rs) wr) (fun _ s12 _ => 6 - (intOf s12).toNat)
     case atStart => exact ⟨0, _, _, Lib.hid ⟨Nat.zero_le _, Nat.zero_le _⟩, rfl, rfl, S.out⟩
     case round =>
      obtain ⟨k, a, cp, HI, rfl, rfl, S⟩ := hrel
      by_cases hgo : k < p.items.length ∧ k < 6
      ·
       obtain ⟨g1, g2⟩ := hgo
       have hc1 : (k : Int) < p.items.length := by omega
       have hc2 : (k : Int) < 6 := by omega
       obtain ⟨x, hx⟩ : ∃ x, p.items[k]? = some x := ⟨p.items[k], by simp [g1]⟩
       obtain ⟨gi, oi, rfl, hci⟩ : ∃ gi oi, ia = some ⟨gi, oi, none⟩ ∧ ∀ i v, p.items[i]? = some v → w.cell? ⟨gi, oi + i * 3, none⟩ = some (.int .i64 v.kind) ∧ w.cell? ⟨gi, oi + i * 3 + 1, none⟩ = some (.int .i64 v.n) ∧ w.cell? ⟨gi, oi + i * 3 + 2, none⟩ = some (.string v.s) := by
        rcases HI3.out with e | e
        ·
         rw [e] at hx; simp at hx
        ·
         exact e
       have HC := Lib.hid (hci k x hx)
       have HXX := Lib.hid hx
       have HG := Lib.hid (And.intro g1 g2)
       clear hx hci g1 g2
       replace S : Sep w (valsR (.slice a k cp) ((p.items.take k).map plainV) :: boxV qv101 v :: heapR h (madeB L i) :: refR q_4_1 (madeB L i) :: Rs) wr := S
       refine named (valsR (.slice a k cp) ((p.items.take k).map plainV) :: boxV qv101 v :: heapR h (madeB L i) :: refR q_4_1 (madeB L i) :: Rs : List Res) fun b17_200 hb17_200 => ?_
       have Hb17_200 := Lib.hid hb17_200
       have Kb17_200 : Hid (∀ W (Q : List Res), Sep w (Q ++ b17_200) W → True) := Lib.hid fun W Q T => by
        rw [hb17_200] at T
        trivial
       have B1 : Hid (∀ W (Q : List Res), Sep w (Q ++ b17_200) W → W.cell? ⟨g, og + i * 3 + 1, none⟩ = some (.slice (some ⟨gi, oi, none⟩) p.items.length ic)) := Lib.hid fun W Q T => cellBelow H1.out T.below
       replace S := Lib.hid S
       clear hb17_200
       go_upto_region 17 with fail
       have S1 : Sep w ([] ++ b17_200) (wr) := by rw [Hb17_200.out]; exact S.out
       clear S
       refine regionL (E := []) (base := b17_200) S1 ?_
       clear S1
       iterate 5 refine qa ?_
       refine qc B1 ?_
       iterate 6 refine qa ?_
       refine doneL (h := fun w202 S => ?_)
       replace S : Sep w (valsR (.slice a k cp) ((p.items.take k).map plainV) :: boxV qv101 v :: heapR h (madeB L i) :: refR q_4_1 (madeB L i) :: Rs) w202 := by rw [Hb17_200.out] at S; exact S
       clear Hb17_200 Kb17_200 B1
       replace S : Sep w (valsR (.slice a k cp) ((p.items.take k).map plainV) :: boxV qv101 v :: heapR h (madeB L i) :: refR q_4_1 (madeB L i) :: Rs) (w202) := by
        refine (show Sep w ([valsR (.slice a k cp) ((p.items.take k).map plainV), boxV qv101 v, heapR h (madeB L i), refR q_4_1 (madeB L i)] ++ Rs) _ from S).perm ?_
        exact List.Perm.append_right Rs (perm_of (l := [valsR (.slice a k cp) ((p.items.take k).map plainV), boxV qv101 v, heapR h (madeB L i), refR q_4_1 (madeB L i)]) [0, 1, 2, 3] (by show (List.range' 0 4).Perm [0, 1, 2, 3]; decide) (by rfl))
       refine named (boxV qv101 v :: heapR h (madeB L i) :: refR q_4_1 (madeB L i) :: Rs : List Res) fun b19_202 hb19_202 => ?_
       have Hb19_202 := Lib.hid hb19_202
       have Kb19_202 : Hid (∀ W (Q : List Res), Sep w (Q ++ b19_202) W → True) := Lib.hid fun W Q T => by
        rw [hb19_202] at T
        trivial
       have K19_9 : QuietC w b19_202 9 #[agV x] (.agg #[.int .i64 (plainV x).kind, .int .i64 (plainV x).n, .string (plainV x).s]) := Lib.hid fun W Q T => by
        rw [Hb19_202.out] at T ⊢
        exact lplain_ok T x
       have B1 : Hid (∀ W (Q : List Res), Sep w (Q ++ b19_202) W → W.cell? ⟨g, og + i * 3 + 1, none⟩ = some (.slice (some ⟨gi, oi, none⟩) p.items.length ic)) := Lib.hid fun W Q T => cellBelow H1.out T.below
       have BX : Hid (∀ W (Q : List Res), Sep w (Q ++ b19_202) W → W.cell? ⟨gi, oi + k * 3, none⟩ = some (.int .i64 x.kind) ∧ W.cell? ⟨gi, oi + k * 3 + 1, none⟩ = some (.int .i64 x.n) ∧ W.cell? ⟨gi, oi + k * 3 + 2, none⟩ = some (.string x.s)) := Lib.hid fun W Q T => ⟨cellBelow HC.out.1 T.below, cellBelow HC.out.2.1 T.below, cellBelow HC.out.2.2 T.below⟩
       replace S := Lib.hid S
       clear hb19_202
       go_upto_region 19 with fail
       have S1 : Sep w ([valsR (.slice a k cp) ((p.items.take k).map plainV)] ++ b19_202) (w202) := by rw [Hb19_202.out]; exact S.out
       clear S
       refine regionL (E := [emptyR, valsR (.slice a k cp) ((p.items.take k).map plainV)]) (base := b19_202) (Sep.putE S1) ?_
       clear S1
       iterate 5 refine qa ?_
       refine qc B1 ?_
       iterate 2 refine qa ?_
       refine qc BX ?_
       refine qk K19_9 ?_
       refine allocL 0 rfl (fun q => .slice (some ⟨q, 0, none⟩) 1 1) (.cells #[.int .i64 (plainV x).kind, .int .i64 (plainV x).n, .string (plainV x).s] 24) (h1 := fun Wx => by go_simp) (h2 := fun qQ1 => ?_); simp only [Act.put, pa]; try dsimp only [List.set]
       try simp only [List.set_cons_zero, List.set_cons_succ]
       refine stepL (fun v E1 => ∃ (va_204_2 : Option Addr) (vc_204_2 : Nat), v = .slice va_204_2 (k + 1) vc_204_2 ∧ E1 = [boxV qQ1 (plainV x), valsR (.slice va_204_2 (k + 1) vc_204_2) ((p.items.take k).map plainV ++ [plainV x])]) (h1 := fun Wx hSw => by (have e0 : ((p.items.take k).map plainV).length = k := (by rw [List.length_map, List.length_take]; have := HG.out; omega); obtain ⟨va, vc, w2, hr, S2⟩ := hSw.appendV 1 rfl e0 (ys := [plainV x]) (seesOneV (hSw.box (b := qQ1) 0 rfl)).vals (k + 1) rfl (by have := HG.out; omega); exact symAppend _ _ _ _ rfl _ _ rfl rfl hr ⟨_, ⟨va, vc, rfl, rfl⟩, S2⟩)) (h2 := fun v E1 hvE => ?_)
       obtain ⟨va_204_2, vc_204_2, rfl, rfl⟩ := hvE; simp only [Act.put, pa]; try dsimp only [List.set]
       refine qa ?_
       refine doneL (h := fun w204 S => ?_)
       replace S : Sep w (boxV qQ1 (plainV x) :: valsR (.slice va_204_2 (k + 1) vc_204_2) ((p.items.take k).map plainV ++ [plainV x]) :: boxV qv101 v :: heapR h (madeB L i) :: refR q_4_1 (madeB L i) :: Rs) w204 := by rw [Hb19_202.out] at S; exact S
       clear Hb19_202 Kb19_202 K19_9 B1 BX
       replace S : Sep w ([boxV qQ1 (plainV x), valsR (.slice va_204_2 (k + 1) vc_204_2) ((p.items.take k).map plainV ++ [plainV x]), boxV qv101 v, heapR h (madeB L i), refR q_4_1 (madeB L i)] ++ Rs) (w204) := by
        refine (show Sep w ([boxV qQ1 (plainV x), valsR (.slice va_204_2 (k + 1) vc_204_2) ((p.items.take k).map plainV ++ [plainV x]), boxV qv101 v, heapR h (madeB L i), refR q_4_1 (madeB L i)] ++ Rs) _ from S).perm ?_
        exact List.Perm.append_right Rs (perm_of (l := [boxV qQ1 (plainV x), valsR (.slice va_204_2 (k + 1) vc_204_2) ((p.items.take k).map plainV ++ [plainV x]), boxV qv101 v, heapR h (madeB L i), refR q_4_1 (madeB L i)]) [0, 1, 2, 3, 4] (by show (List.range' 0 5).Perm [0, 1, 2, 3, 4]; decide) (by rfl))
       iterate 1 replace S := S.tail
       replace S : Sep w (valsR (.slice va_204_2 (k + 1) vc_204_2) ((p.items.take k).map plainV ++ [plainV x]) :: boxV qv101 v :: heapR h (madeB L i) :: refR q_4_1 (madeB L i) :: Rs) (w204) := S
       have e2 : (p.items.take k).map plainV ++ [plainV x] = (p.items.take (k + 1)).map plainV := by rw [List.take_add_one, HXX.out]; simp
       rw [e2] at S
       have hi1 : IntKind.i64.wrap ((k : Int) + 1) = (k : Int) + 1 := IntWalk.i64_in _ (by have := HG.out; omega)
       replace S := Lib.hid S
       clear e2
       go_wp2
       exact ⟨⟨k + 1, _, _, Lib.hid HG.out, rfl, by go_num, S.out⟩, by have := HG.out; simp [intOf]; omega⟩
      ·
       have hz : (k : Int) < p.items.length → ¬ (k : Int) < 6 := fun a b => hgo ⟨by omega, by omega⟩
       have hkx : (p.items.take k).map plainV = itemsP p := by unfold itemsP; rw [List.take_eq_take_iff.2 (show min k p.items.length = min 6 p.items.length by have := HI.out; omega)]
       rw [hkx] at S
       have hkl : (itemsP p).length = k := by rw [← hkx, List.length_map, List.length_take]; have := HI.out; omega
       have HKL := Lib.hid hkl
       clear hgo hkx hkl
       replace S : Sep w (valsR (.slice a k cp) (itemsP p) :: boxV qv101 v :: heapR h (madeB L i) :: refR q_4_1 (madeB L i) :: Rs) wr := S
       go_upto_region 17 with fail
       go_cut [63] (fun s63 wx => s63 = .bool false ∧ Sep w (valsR (.slice a k cp) (itemsP p) :: boxV qv101 v :: heapR h (madeB L i) :: refR q_4_1 (madeB L i) :: Rs) wx)
       case first =>
        by_cases g1 : (k : Int) < p.items.length
        ·
         have g2 : ¬ (k : Int) < 6 := hz g1
         refine named (valsR (.slice a k cp) (itemsP p) :: boxV qv101 v :: heapR h (madeB L i) :: refR q_4_1 (madeB L i) :: Rs : List Res) fun b17_310 hb17_310 => ?_
         have Hb17_310 := Lib.hid hb17_310
         have Kb17_310 : Hid (∀ W (Q : List Res), Sep w (Q ++ b17_310) W → True) := Lib.hid fun W Q T => by
          rw [hb17_310] at T
          trivial
         have B1 : Hid (∀ W (Q : List Res), Sep w (Q ++ b17_310) W → W.cell? ⟨g, og + i * 3 + 1, none⟩ = some (.slice ia p.items.length ic)) := Lib.hid fun W Q T => cellBelow H1.out T.below
         replace S := Lib.hid S
         clear hb17_310
         have S1 : Sep w ([] ++ b17_310) (wr) := by rw [Hb17_310.out]; exact S.out
         clear S
         refine regionL (E := []) (base := b17_310) S1 ?_
         clear S1
         iterate 5 refine qa ?_
         refine qc B1 ?_
         iterate 6 refine qa ?_
         refine doneL (h := fun w312 S => ?_)
         replace S : Sep w (valsR (.slice a k cp) (itemsP p) :: boxV qv101 v :: heapR h (madeB L i) :: refR q_4_1 (madeB L i) :: Rs) w312 := by rw [Hb17_310.out] at S; exact S
         clear Hb17_310 Kb17_310 B1
         replace S := Lib.hid S
         go_wp2_with fail
         go_meet
         exact ⟨rfl, S.out⟩
        ·
         refine named (valsR (.slice a k cp) (itemsP p) :: boxV qv101 v :: heapR h (madeB L i) :: refR q_4_1 (madeB L i) :: Rs : List Res) fun b17_330 hb17_330 => ?_
         have Hb17_330 := Lib.hid hb17_330
         have Kb17_330 : Hid (∀ W (Q : List Res), Sep w (Q ++ b17_330) W → True) := Lib.hid fun W Q T => by
          rw [hb17_330] at T
          trivial
         have B1 : Hid (∀ W (Q : List Res), Sep w (Q ++ b17_330) W → W.cell? ⟨g, og + i * 3 + 1, none⟩ = some (.slice ia p.items.length ic)) := Lib.hid fun W Q T => cellBelow H1.out T.below
         replace S := Lib.hid S
         clear hb17_330
         have S1 : Sep w ([] ++ b17_330) (wr) := by rw [Hb17_330.out]; exact S.out
         clear S
         refine regionL (E := []) (base := b17_330) S1 ?_
         clear S1
         iterate 5 refine qa ?_
         refine qc B1 ?_
         iterate 3 refine qa ?_
         iterate 2 refine qz ?_
         refine qa ?_
         refine doneL (h := fun w332 S => ?_)
         replace S : Sep w (valsR (.slice a k cp) (itemsP p) :: boxV qv101 v :: heapR h (madeB L i) :: refR q_4_1 (madeB L i) :: Rs) w332 := by rw [Hb17_330.out] at S; exact S
         clear Hb17_330 Kb17_330 B1
         replace S := Lib.hid S
         go_wp2_with fail
         go_meet
         exact ⟨rfl, S.out⟩
       case rest =>
        obtain ⟨rfl, S⟩ := hcut
        clear hz
        obtain ⟨H1_, hH1⟩ : ∃ X, X = (madeB L i).replace v 0 0 (itemsP p) := ⟨_, rfl⟩
        have HH1 := Lib.hid hH1
        have F1 : Hid (H1_.Fit 300) := Lib.hid (by rw [hH1]; exact (FI.out.replace v 0 0 (itemsP p)).more (by have := itemsP_len p; omega))
        clear hH1
        replace S : Sep w (refR q_4_1 (madeB L i) :: valsR (.slice a k cp) (itemsP p) :: boxV qv101 v :: heapR h (madeB L i) :: Rs) (wc) := by
         refine (show Sep w ([valsR (.slice a k cp) (itemsP p), boxV qv101 v, heapR h (madeB L i), refR q_4_1 (madeB L i)] ++ Rs) _ from S).perm ?_
         exact List.Perm.append_right Rs (perm_of (l := [valsR (.slice a k cp) (itemsP p), boxV qv101 v, heapR h (madeB L i), refR q_4_1 (madeB L i)]) [3, 0, 1, 2] (by show (List.range' 0 4).Perm [3, 0, 1, 2]; decide) (by rfl))
        refine named (valsR (.slice a k cp) (itemsP p) :: boxV qv101 v :: heapR h (madeB L i) :: Rs : List Res) fun b20_400 hb20_400 => ?_
        have Hb20_400 := Lib.hid hb20_400
        have Kb20_400 : Hid (∀ W (Q : List Res), Sep w (Q ++ b20_400) W → True) := Lib.hid fun W Q T => by
         rw [hb20_400] at T
         trivial
        have Cb20_400_0 := baseC3 (w := w) (b := qv101) hb20_400 1 rfl
        have KW : Hid (∀ W (Q : List Res), Sep w (Q ++ b20_400) W → SeesV W (.slice a k cp) (itemsP p)) := Lib.hid fun W Q T => by rw [Hb20_400.out] at T; exact T.seesV (Q.length + 0) (atR rfl)
        replace S := Lib.hid S
        clear hb20_400
        go_upto_region 20 with fail
        have S1 : Sep w ([refR q_4_1 (madeB L i)] ++ b20_400) (wc) := by rw [Hb20_400.out]; exact S.out
        clear S
        refine regionL (E := [refR q_4_1 (madeB L i)]) (base := b20_400) S1 ?_
        clear S1
        refine qa ?_
        refine qc Cb20_400_0 ?_
        refine qa ?_
        refine qd (.bool ((madeB L i).canReplace v 0 0)) [refR q_4_1 H1_] (h1 := fun Wx hSw => by (go_simp; refine symCall ?_; have hh := hSw.yReplace 0 rfl FI.out.G v 0 0 (.slice a k cp) (itemsP p) (fun W1 T => KW.out W1 [] T) (by have := itemsP_len p; omega); rw [← HH1.out] at hh; exact hh)) (h2 := ?_)
        refine doneL (h := fun w402 S => ?_)
        replace S : Sep w (refR q_4_1 H1_ :: valsR (.slice a k cp) (itemsP p) :: boxV qv101 v :: heapR h (madeB L i) :: Rs) w402 := by rw [Hb20_400.out] at S; exact S
        clear Hb20_400 Kb20_400 KW Cb20_400_0
        refine named (refR q_4_1 H1_ :: valsR (.slice a k cp) (itemsP p) :: boxV qv101 v :: heapR h (madeB L i) :: Rs : List Res) fun b21_402 hb21_402 => ?_
        have Hb21_402 := Lib.hid hb21_402
        have Kb21_402 : Hid (∀ W (Q : List Res), Sep w (Q ++ b21_402) W → True) := Lib.hid fun W Q T => by
         rw [hb21_402] at T
         trivial
        replace S := Lib.hid S
        clear hb21_402
        go_upto_region 21 with fail
        have S1 : Sep w ([] ++ b21_402) (w402) := by rw [Hb21_402.out]; exact S.out
        clear S
        refine regionL (E := []) (base := b21_402) S1 ?_
        clear S1
        iterate 2 refine qa ?_
        refine doneL (h := fun w404 S => ?_)
        replace S : Sep w (refR q_4_1 H1_ :: valsR (.slice a k cp) (itemsP p) :: boxV qv101 v :: heapR h (madeB L i) :: Rs) w404 := by rw [Hb21_402.out] at S; exact S
        clear Hb21_402 Kb21_402
        replace S : Sep w (heapR h (madeB L i) :: refR q_4_1 H1_ :: valsR (.slice a k cp) (itemsP p) :: boxV qv101 v :: Rs) (w404) := by
         refine (show Sep w ([refR q_4_1 H1_, valsR (.slice a k cp) (itemsP p), boxV qv101 v, heapR h (madeB L i)] ++ Rs) _ from S).perm ?_
         exact List.Perm.append_right Rs (perm_of (l := [refR q_4_1 H1_, valsR (.slice a k cp) (itemsP p), boxV qv101 v, heapR h (madeB L i)]) [3, 0, 1, 2] (by show (List.range' 0 4).Perm [3, 0, 1, 2]; decide) (by rfl))
        refine named (refR q_4_1 H1_ :: valsR (.slice a k cp) (itemsP p) :: boxV qv101 v :: Rs : List Res) fun b22_404 hb22_404 => ?_
        have Hb22_404 := Lib.hid hb22_404
        have Kb22_404 : Hid (∀ W (Q : List Res), Sep w (Q ++ b22_404) W → True) := Lib.hid fun W Q T => by
         rw [hb22_404] at T
         trivial
        have Cb22_404_0 := baseC3 (w := w) (b := qv101) hb22_404 2 rfl
        have KW : Hid (∀ W (Q : List Res), Sep w (Q ++ b22_404) W → SeesV W (.slice a k cp) (itemsP p)) := Lib.hid fun W Q T => by rw [Hb22_404.out] at T; exact T.seesV (Q.length + 1) (atR rfl)
        replace S := Lib.hid S
        clear hb22_404
        go_upto_region 22 with fail
        have S1 : Sep w ([heapR h (madeB L i)] ++ b22_404) (w404) := by rw [Hb22_404.out]; exact S.out
        clear S
        refine regionL (E := [heapR h (madeB L i)]) (base := b22_404) S1 ?_
        clear S1
        refine qa ?_
        refine qc Cb22_404_0 ?_
        refine qa ?_
        refine qd (.bool ((madeB L i).canReplace v 0 0)) [heapR h H1_] (h1 := fun Wx hSw => by (go_simp; refine symCall ?_; have hh := hSw.replace 0 rfl FI.out.G v 0 0 (.slice a k cp) (itemsP p) (KW.out _ _ hSw) (by have := itemsP_len p; omega); rw [← HH1.out] at hh; exact hh)) (h2 := ?_)
        refine doneL (h := fun w406 S => ?_)
        replace S : Sep w (heapR h H1_ :: refR q_4_1 H1_ :: valsR (.slice a k cp) (itemsP p) :: boxV qv101 v :: Rs) w406 := by rw [Hb22_404.out] at S; exact S
        clear Hb22_404 Kb22_404 KW Cb22_404_0
        replace S : Sep w ([valsR (.slice a k cp) (itemsP p), heapR h H1_, refR q_4_1 H1_, boxV qv101 v] ++ Rs) (w406) := by
         refine (show Sep w ([heapR h H1_, refR q_4_1 H1_, valsR (.slice a k cp) (itemsP p), boxV qv101 v] ++ Rs) _ from S).perm ?_
         exact List.Perm.append_right Rs (perm_of (l := [heapR h H1_, refR q_4_1 H1_, valsR (.slice a k cp) (itemsP p), boxV qv101 v]) [2, 0, 1, 3] (by show (List.range' 0 4).Perm [2, 0, 1, 3]; decide) (by rfl))
        iterate 1 replace S := S.tail
        replace S : Sep w (heapR h H1_ :: refR q_4_1 H1_ :: boxV qv101 v :: Rs) (w406) := S
        replace S := Lib.hid S
        go_wp2
        go_loopw [13] (fun s13 wr => ∃ k : Nat, Hid (k ≤ p.pairs.length ∧ k ≤ 6) ∧ s13 = .int .i64 k ∧ Sep w ([heapR h (putsM H1_ v (p.pairs.take k)), refR q_4_1 (putsM H1_ v (p.pairs.take k)), boxV qv101 v] ++ Rs) wr) (fun s13 _ => 6 - (intOf s13).toNat)
        case atStart => exact ⟨0, Lib.hid ⟨Nat.zero_le _, Nat.zero_le _⟩, rfl, S.out⟩
        case round =>
         clear HKL HI
         obtain ⟨k, HI, rfl, S⟩ := hrel
         have FK : Hid ((putsM H1_ v (p.pairs.take k)).Fit 400) := Lib.hid ((puts_fit _ F1.out).more (by have := HI.out; rw [List.length_take]; omega))
         by_cases hgo : k < p.pairs.length ∧ k < 6
         ·
          obtain ⟨g1, g2⟩ := hgo
          have hc1 : (k : Int) < p.pairs.length := by omega
          have hc2 : (k : Int) < 6 := by omega
          obtain ⟨q, hq⟩ : ∃ q, p.pairs[k]? = some q := ⟨p.pairs[k], by simp [g1]⟩
          obtain ⟨gp, op, rfl, hcp⟩ : ∃ gp op, pad = some ⟨gp, op, none⟩ ∧ ∀ i (q : V × V), p.pairs[i]? = some q → ∀ (j : Nat) (u : Value), (pairC q)[j]? = some u → w.cell? ⟨gp, op + i * 6 + j, none⟩ = some u := by
           rcases HP3.out with e | e
           ·
            rw [e] at hq; simp at hq
           ·
            exact e
          have HC := Lib.hid (fun (j : Nat) (u : Value) => hcp k q hq j u)
          have HNP := Lib.hid (puts_next (H := H1_) (v := v) hq)
          have HG := Lib.hid (And.intro g1 g2)
          clear hq hcp g1 g2
          replace S : Sep w (heapR h (putsM H1_ v (p.pairs.take k)) :: refR q_4_1 (putsM H1_ v (p.pairs.take k)) :: boxV qv101 v :: Rs) wr := S
          refine named (heapR h (putsM H1_ v (p.pairs.take k)) :: refR q_4_1 (putsM H1_ v (p.pairs.take k)) :: boxV qv101 v :: Rs : List Res) fun b24_500 hb24_500 => ?_
          have Hb24_500 := Lib.hid hb24_500
          have Kb24_500 : Hid (∀ W (Q : List Res), Sep w (Q ++ b24_500) W → True) := Lib.hid fun W Q T => by
           rw [hb24_500] at T
           trivial
          have B2 : Hid (∀ W (Q : List Res), Sep w (Q ++ b24_500) W → W.cell? ⟨g, og + i * 3 + 2, none⟩ = some (.slice (some ⟨gp, op, none⟩) p.pairs.length pc)) := Lib.hid fun W Q T => cellBelow H2.out T.below
          replace S := Lib.hid S
          clear hb24_500
          go_upto_region 24 with fail
          have S1 : Sep w ([] ++ b24_500) (wr) := by rw [Hb24_500.out]; exact S.out
          clear S
          refine regionL (E := []) (base := b24_500) S1 ?_
          clear S1
          iterate 5 refine qa ?_
          refine qc B2 ?_
          iterate 6 refine qa ?_
          refine doneL (h := fun w502 S => ?_)
          replace S : Sep w (heapR h (putsM H1_ v (p.pairs.take k)) :: refR q_4_1 (putsM H1_ v (p.pairs.take k)) :: boxV qv101 v :: Rs) w502 := by rw [Hb24_500.out] at S; exact S
          clear Hb24_500 Kb24_500 B2
          refine named (heapR h (putsM H1_ v (p.pairs.take k)) :: refR q_4_1 (putsM H1_ v (p.pairs.take k)) :: boxV qv101 v :: Rs : List Res) fun b26_502 hb26_502 => ?_
          have Hb26_502 := Lib.hid hb26_502
          have Kb26_502 : Hid (∀ W (Q : List Res), Sep w (Q ++ b26_502) W → True) := Lib.hid fun W Q T => by
           rw [hb26_502] at T
           trivial
          have K26_9 : QuietC w b26_502 9 #[.agg #[.int .i64 q.1.kind, .int .i64 q.1.n, .string q.1.s]] (.agg #[.int .i64 (plainV q.1).kind, .int .i64 (plainV q.1).n, .string (plainV q.1).s]) := Lib.hid fun W Q T => by
           rw [Hb26_502.out] at T ⊢
           exact lplain_ok T q.1
          have B2 : Hid (∀ W (Q : List Res), Sep w (Q ++ b26_502) W → W.cell? ⟨g, og + i * 3 + 2, none⟩ = some (.slice (some ⟨gp, op, none⟩) p.pairs.length pc)) := Lib.hid fun W Q T => cellBelow H2.out T.below
          have BX : Hid (∀ W (Q : List Res), Sep w (Q ++ b26_502) W → W.cell? ⟨gp, op + k * 6, none⟩ = some (.int .i64 q.1.kind) ∧ W.cell? ⟨gp, op + k * 6 + 1, none⟩ = some (.int .i64 q.1.n) ∧ W.cell? ⟨gp, op + k * 6 + 2, none⟩ = some (.string q.1.s)) := Lib.hid fun W Q T => ⟨cellBelow (HC.out 0 _ rfl) T.below, cellBelow (HC.out 1 _ rfl) T.below, cellBelow (HC.out 2 _ rfl) T.below⟩
          replace S := Lib.hid S
          clear hb26_502
          go_upto_region 26 with fail
          have S1 : Sep w ([] ++ b26_502) (w502) := by rw [Hb26_502.out]; exact S.out
          clear S
          refine regionL (E := [emptyR]) (base := b26_502) (Sep.putE S1) ?_
          clear S1
          iterate 4 refine qa ?_
          refine qc B2 ?_
          iterate 3 refine qa ?_
          refine qc BX ?_
          refine qk K26_9 ?_
          refine allocL 0 rfl (fun q => .pointer (some ⟨q, 0, none⟩)) (.cells #[.int .i64 0, .int .i64 0, .string ⟨#[]⟩] 24) (h1 := fun Wx => by go_simp) (h2 := fun qx261 => ?_); simp only [Act.put, pa]; try dsimp only [List.set]
          try simp only [List.set_cons_zero, List.set_cons_succ]
          refine qd undef [boxV qx261 (plainV q.1)] (h1 := fun Wx hSw => by (have hz := hSw.box (b := qx261) (o := objZ) 0 rfl; refine useZ3 hz fun z0 z1 z2 y0 y1 y2 => ?_; go_simp; exact ⟨rfl, hSw.set3 0 rfl (.int .i64 (plainV q.1).kind) (.int .i64 (plainV q.1).n) (.string (plainV q.1).s)⟩)) (h2 := ?_)
          refine doneL (h := fun w504 S => ?_)
          replace S : Sep w (boxV qx261 (plainV q.1) :: heapR h (putsM H1_ v (p.pairs.take k)) :: refR q_4_1 (putsM H1_ v (p.pairs.take k)) :: boxV qv101 v :: Rs) w504 := by rw [Hb26_502.out] at S; exact S
          clear Hb26_502 Kb26_502 K26_9 B2 BX
          refine named (boxV qx261 (plainV q.1) :: heapR h (putsM H1_ v (p.pairs.take k)) :: refR q_4_1 (putsM H1_ v (p.pairs.take k)) :: boxV qv101 v :: Rs : List Res) fun b27_504 hb27_504 => ?_
          have Hb27_504 := Lib.hid hb27_504
          have Kb27_504 : Hid (∀ W (Q : List Res), Sep w (Q ++ b27_504) W → True) := Lib.hid fun W Q T => by
           rw [hb27_504] at T
           trivial
          have K27_9 : QuietC w b27_504 9 #[.agg #[.int .i64 q.2.kind, .int .i64 q.2.n, .string q.2.s]] (.agg #[.int .i64 (plainV q.2).kind, .int .i64 (plainV q.2).n, .string (plainV q.2).s]) := Lib.hid fun W Q T => by
           rw [Hb27_504.out] at T ⊢
           exact lplain_ok T q.2
          have B2 : Hid (∀ W (Q : List Res), Sep w (Q ++ b27_504) W → W.cell? ⟨g, og + i * 3 + 2, none⟩ = some (.slice (some ⟨gp, op, none⟩) p.pairs.length pc)) := Lib.hid fun W Q T => cellBelow H2.out T.below
          have BX : Hid (∀ W (Q : List Res), Sep w (Q ++ b27_504) W → W.cell? ⟨gp, op + k * 6 + 3, none⟩ = some (.int .i64 q.2.kind) ∧ W.cell? ⟨gp, op + k * 6 + 4, none⟩ = some (.int .i64 q.2.n) ∧ W.cell? ⟨gp, op + k * 6 + 5, none⟩ = some (.string q.2.s)) := Lib.hid fun W Q T => ⟨cellBelow (HC.out 3 _ rfl) T.below, cellBelow (HC.out 4 _ rfl) T.below, cellBelow (HC.out 5 _ rfl) T.below⟩
          replace S := Lib.hid S
          clear hb27_504
          go_upto_region 27 with fail
          have S1 : Sep w ([] ++ b27_504) (w504) := by rw [Hb27_504.out]; exact S.out
          clear S
          refine regionL (E := [emptyR]) (base := b27_504) (Sep.putE S1) ?_
          clear S1
          iterate 4 refine qa ?_
          refine qc B2 ?_
          iterate 3 refine qa ?_
          refine qc BX ?_
          refine qk K27_9 ?_
          refine allocL 0 rfl (fun q => .pointer (some ⟨q, 0, none⟩)) (.cells #[.int .i64 0, .int .i64 0, .string ⟨#[]⟩] 24) (h1 := fun Wx => by go_simp) (h2 := fun qx271 => ?_); simp only [Act.put, pa]; try dsimp only [List.set]
          try simp only [List.set_cons_zero, List.set_cons_succ]
          refine qd undef [boxV qx271 (plainV q.2)] (h1 := fun Wx hSw => by (have hz := hSw.box (b := qx271) (o := objZ) 0 rfl; refine useZ3 hz fun z0 z1 z2 y0 y1 y2 => ?_; go_simp; exact ⟨rfl, hSw.set3 0 rfl (.int .i64 (plainV q.2).kind) (.int .i64 (plainV q.2).n) (.string (plainV q.2).s)⟩)) (h2 := ?_)
          refine doneL (h := fun w506 S => ?_)
          replace S : Sep w (boxV qx271 (plainV q.2) :: boxV qx261 (plainV q.1) :: heapR h (putsM H1_ v (p.pairs.take k)) :: refR q_4_1 (putsM H1_ v (p.pairs.take k)) :: boxV qv101 v :: Rs) w506 := by rw [Hb27_504.out] at S; exact S
          clear Hb27_504 Kb27_504 K27_9 B2 BX
          replace S : Sep w (refR q_4_1 (putsM H1_ v (p.pairs.take k)) :: boxV qx271 (plainV q.2) :: boxV qx261 (plainV q.1) :: heapR h (putsM H1_ v (p.pairs.take k)) :: boxV qv101 v :: Rs) (w506) := by
           refine (show Sep w ([boxV qx271 (plainV q.2), boxV qx261 (plainV q.1), heapR h (putsM H1_ v (p.pairs.take k)), refR q_4_1 (putsM H1_ v (p.pairs.take k)), boxV qv101 v] ++ Rs) _ from S).perm ?_
           exact List.Perm.append_right Rs (perm_of (l := [boxV qx271 (plainV q.2), boxV qx261 (plainV q.1), heapR h (putsM H1_ v (p.pairs.take k)), refR q_4_1 (putsM H1_ v (p.pairs.take k)), boxV qv101 v]) [3, 0, 1, 2, 4] (by show (List.range' 0 5).Perm [3, 0, 1, 2, 4]; decide) (by rfl))
          refine named (boxV qx271 (plainV q.2) :: boxV qx261 (plainV q.1) :: heapR h (putsM H1_ v (p.pairs.take k)) :: boxV qv101 v :: Rs : List Res) fun b28_506 hb28_506 => ?_
          have Hb28_506 := Lib.hid hb28_506
          have Kb28_506 : Hid (∀ W (Q : List Res), Sep w (Q ++ b28_506) W → True) := Lib.hid fun W Q T => by
           rw [hb28_506] at T
           trivial
          have Cb28_506_0 := baseC3 (w := w) (b := qv101) hb28_506 3 rfl
          have Cb28_506_1 := baseC3 (w := w) (b := qx261) hb28_506 1 rfl
          have Cb28_506_2 := baseC3 (w := w) (b := qx271) hb28_506 0 rfl
          replace S := Lib.hid S
          clear hb28_506
          go_upto_region 28 with fail
          have S1 : Sep w ([refR q_4_1 (putsM H1_ v (p.pairs.take k))] ++ b28_506) (w506) := by rw [Hb28_506.out]; exact S.out
          clear S
          refine regionL (E := [refR q_4_1 (putsM H1_ v (p.pairs.take k))]) (base := b28_506) S1 ?_
          clear S1
          refine qa ?_
          refine qc Cb28_506_0 ?_
          refine qc Cb28_506_1 ?_
          refine qc Cb28_506_2 ?_
          refine qd (.bool ((putsM H1_ v (p.pairs.take k)).canPut v (plainV q.1))) [refR q_4_1 (putsM H1_ v (p.pairs.take (k + 1)))] (h1 := fun Wx hSw => by (go_simp; refine symCall ?_; have hh := hSw.yPut 0 rfl FK.out v (plainV q.1) (plainV q.2); rw [← HNP.out] at hh; exact hh)) (h2 := ?_)
          refine doneL (h := fun w508 S => ?_)
          replace S : Sep w (refR q_4_1 (putsM H1_ v (p.pairs.take (k + 1))) :: boxV qx271 (plainV q.2) :: boxV qx261 (plainV q.1) :: heapR h (putsM H1_ v (p.pairs.take k)) :: boxV qv101 v :: Rs) w508 := by rw [Hb28_506.out] at S; exact S
          clear Hb28_506 Kb28_506 Cb28_506_0 Cb28_506_1 Cb28_506_2
          refine named (refR q_4_1 (putsM H1_ v (p.pairs.take (k + 1))) :: boxV qx271 (plainV q.2) :: boxV qx261 (plainV q.1) :: heapR h (putsM H1_ v (p.pairs.take k)) :: boxV qv101 v :: Rs : List Res) fun b29_508 hb29_508 => ?_
          have Hb29_508 := Lib.hid hb29_508
          have Kb29_508 : Hid (∀ W (Q : List Res), Sep w (Q ++ b29_508) W → True) := Lib.hid fun W Q T => by
           rw [hb29_508] at T
           trivial
          replace S := Lib.hid S
          clear hb29_508
          go_upto_region 29 with fail
          have S1 : Sep w ([] ++ b29_508) (w508) := by rw [Hb29_508.out]; exact S.out
          clear S
          refine regionL (E := []) (base := b29_508) S1 ?_
          clear S1
          iterate 2 refine qa ?_
          refine doneL (h := fun w510 S => ?_)
          replace S : Sep w (refR q_4_1 (putsM H1_ v (p.pairs.take (k + 1))) :: boxV qx271 (plainV q.2) :: boxV qx261 (plainV q.1) :: heapR h (putsM H1_ v (p.pairs.take k)) :: boxV qv101 v :: Rs) w510 := by rw [Hb29_508.out] at S; exact S
          clear Hb29_508 Kb29_508
          replace S : Sep w (heapR h (putsM H1_ v (p.pairs.take k)) :: refR q_4_1 (putsM H1_ v (p.pairs.take (k + 1))) :: boxV qx271 (plainV q.2) :: boxV qx261 (plainV q.1) :: boxV qv101 v :: Rs) (w510) := by
           refine (show Sep w ([refR q_4_1 (putsM H1_ v (p.pairs.take (k + 1))), boxV qx271 (plainV q.2), boxV qx261 (plainV q.1), heapR h (putsM H1_ v (p.pairs.take k)), boxV qv101 v] ++ Rs) _ from S).perm ?_
           exact List.Perm.append_right Rs (perm_of (l := [refR q_4_1 (putsM H1_ v (p.pairs.take (k + 1))), boxV qx271 (plainV q.2), boxV qx261 (plainV q.1), heapR h (putsM H1_ v (p.pairs.take k)), boxV qv101 v]) [3, 0, 1, 2, 4] (by show (List.range' 0 5).Perm [3, 0, 1, 2, 4]; decide) (by rfl))
          refine named (refR q_4_1 (putsM H1_ v (p.pairs.take (k + 1))) :: boxV qx271 (plainV q.2) :: boxV qx261 (plainV q.1) :: boxV qv101 v :: Rs : List Res) fun b30_510 hb30_510 => ?_
          have Hb30_510 := Lib.hid hb30_510
          have Kb30_510 : Hid (∀ W (Q : List Res), Sep w (Q ++ b30_510) W → True) := Lib.hid fun W Q T => by
           rw [hb30_510] at T
           trivial
          have Cb30_510_0 := baseC3 (w := w) (b := qv101) hb30_510 3 rfl
          have Cb30_510_1 := baseC3 (w := w) (b := qx261) hb30_510 2 rfl
          have Cb30_510_2 := baseC3 (w := w) (b := qx271) hb30_510 1 rfl
          replace S := Lib.hid S
          clear hb30_510
          go_upto_region 30 with fail
          have S1 : Sep w ([heapR h (putsM H1_ v (p.pairs.take k))] ++ b30_510) (w510) := by rw [Hb30_510.out]; exact S.out
          clear S
          refine regionL (E := [heapR h (putsM H1_ v (p.pairs.take k))]) (base := b30_510) S1 ?_
          clear S1
          refine qa ?_
          refine qc Cb30_510_0 ?_
          refine qc Cb30_510_1 ?_
          refine qc Cb30_510_2 ?_
          refine qd (.bool ((putsM H1_ v (p.pairs.take k)).canPut v (plainV q.1))) [heapR h (putsM H1_ v (p.pairs.take (k + 1)))] (h1 := fun Wx hSw => by (go_simp; refine symCall ?_; have hh := hSw.put 0 rfl v (plainV q.1) (plainV q.2); rw [← HNP.out] at hh; exact hh)) (h2 := ?_)
          refine doneL (h := fun w512 S => ?_)
          replace S : Sep w (heapR h (putsM H1_ v (p.pairs.take (k + 1))) :: refR q_4_1 (putsM H1_ v (p.pairs.take (k + 1))) :: boxV qx271 (plainV q.2) :: boxV qx261 (plainV q.1) :: boxV qv101 v :: Rs) w512 := by rw [Hb30_510.out] at S; exact S
          clear Hb30_510 Kb30_510 Cb30_510_0 Cb30_510_1 Cb30_510_2
          replace S : Sep w ([boxV qx271 (plainV q.2), boxV qx261 (plainV q.1), heapR h (putsM H1_ v (p.pairs.take (k + 1))), refR q_4_1 (putsM H1_ v (p.pairs.take (k + 1))), boxV qv101 v] ++ Rs) (w512) := by
           refine (show Sep w ([heapR h (putsM H1_ v (p.pairs.take (k + 1))), refR q_4_1 (putsM H1_ v (p.pairs.take (k + 1))), boxV qx271 (plainV q.2), boxV qx261 (plainV q.1), boxV qv101 v] ++ Rs) _ from S).perm ?_
           exact List.Perm.append_right Rs (perm_of (l := [heapR h (putsM H1_ v (p.pairs.take (k + 1))), refR q_4_1 (putsM H1_ v (p.pairs.take (k + 1))), boxV qx271 (plainV q.2), boxV qx261 (plainV q.1), boxV qv101 v]) [2, 3, 0, 1, 4] (by show (List.range' 0 5).Perm [2, 3, 0, 1, 4]; decide) (by rfl))
          iterate 2 replace S := S.tail
          replace S : Sep w (heapR h (putsM H1_ v (p.pairs.take (k + 1))) :: refR q_4_1 (putsM H1_ v (p.pairs.take (k + 1))) :: boxV qv101 v :: Rs) (w512) := S
          have hi1 : IntKind.i64.wrap ((k : Int) + 1) = (k : Int) + 1 := IntWalk.i64_in _ (by have := HG.out; omega)
          replace S := Lib.hid S
          go_wp2
          exact ⟨⟨k + 1, Lib.hid HG.out, by go_num, S.out⟩, by have := HG.out; simp [intOf]; omega⟩
         ·
          have hz : (k : Int) < p.pairs.length → ¬ (k : Int) < 6 := fun a b => hgo ⟨by omega, by omega⟩
          have hkx : putsM H1_ v (p.pairs.take k) = madeB L (i + 1) := by rw [HNX.out, HH1.out, fillM, List.take_eq_take_iff.2 (show min k p.pairs.length = min 6 p.pairs.length by have := HI.out; omega)]
          rw [hkx] at S
          clear hgo hkx FK
          replace S : Sep w (heapR h (madeB L (i + 1)) :: refR q_4_1 (madeB L (i + 1)) :: boxV qv101 v :: Rs) wr := S
          go_upto_region 24 with fail
          go_cut [99] (fun s99 wx => s99 = .bool false ∧ Sep w (heapR h (madeB L (i + 1)) :: refR q_4_1 (madeB L (i + 1)) :: boxV qv101 v :: Rs) wx)
          case first =>
           by_cases g1 : (k : Int) < p.pairs.length
           ·
            have g2 : ¬ (k : Int) < 6 := hz g1
            refine named (heapR h (madeB L (i + 1)) :: refR q_4_1 (madeB L (i + 1)) :: boxV qv101 v :: Rs : List Res) fun b24_610 hb24_610 => ?_
            have Hb24_610 := Lib.hid hb24_610
            have Kb24_610 : Hid (∀ W (Q : List Res), Sep w (Q ++ b24_610) W → True) := Lib.hid fun W Q T => by
             rw [hb24_610] at T
             trivial
            have B2 : Hid (∀ W (Q : List Res), Sep w (Q ++ b24_610) W → W.cell? ⟨g, og + i * 3 + 2, none⟩ = some (.slice pad p.pairs.length pc)) := Lib.hid fun W Q T => cellBelow H2.out T.below
            replace S := Lib.hid S
            clear hb24_610
            have S1 : Sep w ([] ++ b24_610) (wr) := by rw [Hb24_610.out]; exact S.out
            clear S
            refine regionL (E := []) (base := b24_610) S1 ?_
            clear S1
            iterate 5 refine qa ?_
            refine qc B2 ?_
            iterate 6 refine qa ?_
            refine doneL (h := fun w612 S => ?_)
            replace S : Sep w (heapR h (madeB L (i + 1)) :: refR q_4_1 (madeB L (i + 1)) :: boxV qv101 v :: Rs) w612 := by rw [Hb24_610.out] at S; exact S
            clear Hb24_610 Kb24_610 B2
            replace S := Lib.hid S
            go_wp2_with fail
            go_meet
            exact ⟨rfl, S.out⟩
           ·
            refine named (heapR h (madeB L (i + 1)) :: refR q_4_1 (madeB L (i + 1)) :: boxV qv101 v :: Rs : List Res) fun b24_630 hb24_630 => ?_
            have Hb24_630 := Lib.hid hb24_630
            have Kb24_630 : Hid (∀ W (Q : List Res), Sep w (Q ++ b24_630) W → True) := Lib.hid fun W Q T => by
             rw [hb24_630] at T
             trivial
            have B2 : Hid (∀ W (Q : List Res), Sep w (Q ++ b24_630) W → W.cell? ⟨g, og + i * 3 + 2, none⟩ = some (.slice pad p.pairs.length pc)) := Lib.hid fun W Q T => cellBelow H2.out T.below
            replace S := Lib.hid S
            clear hb24_630
            have S1 : Sep w ([] ++ b24_630) (wr) := by rw [Hb24_630.out]; exact S.out
            clear S
            refine regionL (E := []) (base := b24_630) S1 ?_
            clear S1
            iterate 5 refine qa ?_
            refine qc B2 ?_
            iterate 3 refine qa ?_
            iterate 2 refine qz ?_
            refine qa ?_
            refine doneL (h := fun w632 S => ?_)
            replace S : Sep w (heapR h (madeB L (i + 1)) :: refR q_4_1 (madeB L (i + 1)) :: boxV qv101 v :: Rs) w632 := by rw [Hb24_630.out] at S; exact S
            clear Hb24_630 Kb24_630 B2
            replace S := Lib.hid S
            go_wp2_with fail
            go_meet
            exact ⟨rfl, S.out⟩
          case rest =>
           obtain ⟨rfl, S⟩ := hcut
           clear hz
           replace S : Sep w ([boxV qv101 v, heapR h (madeB L (i + 1)), refR q_4_1 (madeB L (i + 1))] ++ Rs) (wc) := by
            refine (show Sep w ([heapR h (madeB L (i + 1)), refR q_4_1 (madeB L (i + 1)), boxV qv101 v] ++ Rs) _ from S).perm ?_
            exact List.Perm.append_right Rs (perm_of (l := [heapR h (madeB L (i + 1)), refR q_4_1 (madeB L (i + 1)), boxV qv101 v]) [2, 0, 1] (by show (List.range' 0 3).Perm [2, 0, 1]; decide) (by rfl))
           iterate 1 replace S := S.tail
           replace S : Sep w (heapR h (madeB L (i + 1)) :: refR q_4_1 (madeB L (i + 1)) :: Rs) (wc) := S
           have hi1 : IntKind.i64.wrap ((i : Int) + 1) = (i : Int) + 1 := IntWalk.i64_in _ (by have := HN8.out; have := HLT.out; omega)
           replace S := Lib.hid S
           go_wp2
           exact ⟨⟨i + 1, HLT.out, by go_num, S.out⟩, by have := HLT.out; simp [intOf]; omega⟩
    ·
     obtain rfl : i = L.length := by omega
     have hnot2 : ¬ ((L.length : Int) < L.length) := by omega
     clear hlt hi
     replace S := Lib.hid S
     go_wp2
     exact bodyPost_ret (v := .tuple #[.pointer (some ⟨h, 0, none⟩), .pointer (some ⟨q_4_1, 0, none⟩)]) (by simp [results, Tryz.results8, go_sem]) rfl ⟨h, q_4_1, rfl, S.out⟩
end
end Go.Proofs.YtijlebhoapdfnaaGreat
