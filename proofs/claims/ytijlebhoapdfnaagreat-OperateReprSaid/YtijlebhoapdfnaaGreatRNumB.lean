/- ch 16: the reference's numbers: whole, Of, Neg, Add. -/
import Derived.Test.YtijlebhoapdfnaaGreatRNumA
set_option maxRecDepth 100000
set_option maxHeartbeats 12800000
namespace Go.Proofs.YtijlebhoapdfnaaGreat
set_option linter.unusedSimpArgs false
open Go.RowKit
set_option linter.unusedVariables false
attribute [local irreducible] wpSeqS wpAnyS wpPreS
section
variable {w W : World} {Rs : List Res}
theorem SeesD.front {W : World} {a : Option Addr} {n c : Nat} {l : List Nat} (h : SeesD W (.slice a n c) l) {k : Nat} (hk : k ≤ n) : SeesD W (.slice a k c) (l.take k) := by
 obtain ⟨a', c', e, h2, h3, h4⟩ := h
 obtain ⟨rfl, rfl, rfl⟩ := Value.slice.inj e
 have hl : (l.take k).length = k := by rw [List.length_take]; omega
 refine ⟨a, c, by rw [hl], by rw [hl]; omega, h3, ?_⟩
 rcases h4 with h4 | ⟨g, o, h5, h6⟩
 ·
  subst h4; exact .inl (by simp)
 ·
  refine .inr ⟨g, o, h5, fun i d hd => h6 i d ?_⟩
  rw [List.getElem?_take] at hd
  split at hd
  ·
   exact hd
  ·
   cases hd
theorem okI_rng {n : Int} (h : okI n) : -9223372036854775808 ≤ n ∧ n ≤ 9223372036854775807 := by
 have h' : (Lit.int .i64 n).wf = true := h
 simp [Lit.wf, IntKind.min, IntKind.max, IntKind.bits, IntKind.signed] at h'; omega
theorem neg_flag (z : Int) : (!decide (z < 0) && decide (z.natAbs ≠ 0)) = decide (-z < 0) := by
 rcases Int.lt_trichotomy z 0 with h | h | h
 ·
  rw [decide_eq_true h, decide_eq_false (show ¬ -z < 0 by omega)]; rfl
 ·
  subst h; rfl
 ·
  rw [decide_eq_false (show ¬ z < 0 by omega), decide_eq_true (show z.natAbs ≠ 0 by omega), decide_eq_true (show -z < 0 by omega)]; rfl
theorem add_same {x y : Int} (h : decide (x < 0) = decide (y < 0)) : x.natAbs + y.natAbs = (x + y).natAbs ∧ (decide (x < 0) && decide ((x + y).natAbs ≠ 0)) = decide (x + y < 0) := by
 by_cases h1 : x < 0
 ·
  have h2 : y < 0 := by rw [decide_eq_true h1] at h; simpa using h.symm
  refine ⟨by omega, ?_⟩
  rw [decide_eq_true h1, decide_eq_true (show (x + y).natAbs ≠ 0 by omega), decide_eq_true (show x + y < 0 by omega)]; rfl
 ·
  have h2 : ¬ y < 0 := by rw [decide_eq_false h1] at h; simpa using h.symm
  refine ⟨by omega, ?_⟩
  rw [decide_eq_false h1, decide_eq_false (show ¬ x + y < 0 by omega)]; rfl
theorem add_turn {x y : Int} (h : decide (y < 0) = !decide (x < 0)) (hle : y.natAbs ≤ x.natAbs) : x.natAbs - y.natAbs = (x + y).natAbs ∧ (decide (x < 0) && decide ((x + y).natAbs ≠ 0)) = decide (x + y < 0) := by
 by_cases h1 : x < 0
 ·
  have h2 : ¬ y < 0 := by rw [decide_eq_true h1] at h; simpa using h
  refine ⟨by omega, ?_⟩
  rw [decide_eq_true h1]
  by_cases h3 : (x + y).natAbs = 0
  ·
   rw [decide_eq_false (show ¬ (x + y).natAbs ≠ 0 by omega), decide_eq_false (show ¬ x + y < 0 by omega)]; rfl
  ·
   rw [decide_eq_true (show (x + y).natAbs ≠ 0 by omega), decide_eq_true (show x + y < 0 by omega)]; rfl
 ·
  have h2 : y < 0 := by rw [decide_eq_false h1] at h; simpa using h
  refine ⟨by omega, ?_⟩
  rw [decide_eq_false h1, decide_eq_false (show ¬ x + y < 0 by omega)]; rfl
theorem digs_len {v : Nat} : (digs v).length = 0 ↔ v = 0 := by
 constructor
 ·
  intro h
  have e := digs_val v
  rw [List.length_eq_zero_iff.1 h] at e
  exact e.symm
 ·
  intro h; subst h; rw [digs_zero]; rfl
theorem rwhole_ok (S : Sep w Rs W) (ng : Bool) (sv : Value) (l : List Nat) (hs : SeesD w sv l) (hd : Digs l) (hlm : l.length ≤ 9000000) : Calls Tryz.prog 176 #[.bool ng, sv] W fun e W' => ∃ va vc, e = .returned (.agg #[.bool (ng && decide (valD l ≠ 0)), .slice va (digs (valD l)).length vc]) ∧ Sep w (dR (.slice va (digs (valD l)).length vc) (digs (valD l)) :: Rs) W' := by
 have hll := hs.len
 have HS := Lib.hid hs
 obtain ⟨bb, hbb⟩ : ∃ q, (ng && decide (valD l ≠ 0)) = q := ⟨_, rfl⟩
 obtain ⟨D, hD⟩ : ∃ D, digs (valD l) = D := ⟨_, rfl⟩
 rw [hbb, hD]
 have HBB0 := Lib.hid hbb
 have HD0 := Lib.hid hD
 clear hbb hD
 obtain ⟨a, c, rfl, hc1, hc2, hc3⟩ := hs
 have HC3 := Lib.hid hc3
 have HD := Lib.hid hd
 have HLM := Lib.hid hlm
 have HCC := Lib.hid (And.intro hc1 hc2)
 clear hd hlm hc1 hc2 hc3
 obtain ⟨b, hb⟩ : ∃ gx_, (W.heap.size) = gx_ := ⟨_, rfl⟩
 replace S := (S.alloc (.cells #[.bool false, .slice none 0 0] 167))
 simp only [World.size_alloc, hb] at S
 obtain ⟨bA, hbs⟩ : ∃ l, l = Rs := ⟨_, rfl⟩
 have HBS := Lib.hid hbs
 replace S := enterP (w := w) (all := [boxR b (.cells #[.bool false, .slice none 0 0] 167)]) (E := [boxR b (.cells #[.bool false, .slice none 0 0] 167)]) (B := []) (Rs := Rs) S hbs (perm_of [0] (by show (List.range' 0 1).Perm [0]; decide) (by rfl))
 clear hbs
 replace S := Lib.hid S
 go_enter Tryz.func176, Tryz.ntmps176
 go_upto_region 2 with fail
 try simp only [World.size_alloc, hb]
 clear hb
 replace S := S.out
 go_loopw [5] (fun s5 wr => ∃ n : Nat, n ≤ l.length ∧ s5 = .int .i64 n ∧ Hid (∀ i d, l[i]? = some d → n ≤ i → d = 0) ∧ Sep w ([boxR b (.cells #[.bool false, .slice none 0 0] 167)] ++ bA) wr) (fun s5 _ => (intOf s5).toNat)
 case atStart => exact ⟨l.length, Nat.le_refl _, rfl, Lib.hid fun i d hi hn => (by have := (List.getElem?_eq_some_iff.1 hi).1; omega), S⟩
 case round =>
  clear S
  obtain ⟨n, hn, rfl, HZ, S⟩ := hrel
  replace S := Lib.hid S
  obtain ⟨go, hgo⟩ : ∃ g, decide (0 < n ∧ digD l (n - 1) = 0) = g := ⟨_, rfl⟩
  have HGO := Lib.hid hgo
  clear hgo
  have HN := Lib.hid hn
  clear hn
  go_upto_region 2 with fail
  go_cut [17] (fun s17 wx => s17 = .bool go ∧ Sep w ([boxR b (.cells #[.bool false, .slice none 0 0] 167)] ++ bA) wx)
  case first =>
   by_cases hp : 0 < n
   ·
    obtain ⟨m, rfl⟩ : ∃ m, n = m + 1 := ⟨n - 1, by omega⟩
    have hml : m < l.length := by have := HN.out; omega
    obtain ⟨d, hd⟩ : ∃ d, l[m]? = some d := ⟨l[m], by simp [hml]⟩
    obtain ⟨g, og, rfl, hcc⟩ : ∃ g o, a = some ⟨g, o, none⟩ ∧ ∀ (i d : Nat), l[i]? = some d → w.cell? ⟨g, o + i, none⟩ = some (.int .i64 (d : Int)) := by
     rcases HC3.out with h | h
     ·
      subst h; simp at hml
     ·
      exact h
    have H0 := Lib.hid (hcc m d hd)
    have CD : Hid (∀ W (Q : List Res), Sep w (Q ++ bA) W → W.cell? ⟨g, og + m, none⟩ = some (.int .i64 (d : Int))) := Lib.hid fun W Q T => cellBelow H0.out T.below
    have e0 : digD l (m + 1 - 1) = d := by show digD l m = d; unfold digD; rw [hd]; rfl
    have hq : go = ((d : Int) == 0) := by rw [← HGO.out, e0]; by_cases h : d = 0 <;> simp [h]
    clear e0
    have HQ := Lib.hid hq
    have e1 : ((m + 1 : Nat) : Int) > 0 := by omega
    have e2 : (0 : Int) < ((m + 1 : Nat) : Int) := by omega
    have e3 : IntKind.i64.wrap (((m + 1 : Nat) : Int) - 1) = (m : Int) := by rw [show ((m + 1 : Nat) : Int) - 1 = (m : Int) by omega]; exact IntWalk.i64_in _ (by omega)
    have e4 : (m : Int) < l.length := by omega
    have e6 : IntKind.i64.wrap (m : Int) = (m : Int) := IntWalk.i64_in _ (by omega)
    have e7 : (0 : Int) ≤ m := by omega
    clear hd hcc hml hp hq
    refine regionL (E := [boxR b (.cells #[.bool false, .slice none 0 0] 167)]) (base := bA) S.out ?_
    clear S
    refine qa ?_
    refine qa (v := .bool true) (hy := fun E Wx hSw => by (go_simp; exact ⟨rfl, hSw⟩)) (h := ?_)
    iterate 5 refine qa ?_
    refine qc CD ?_
    refine qa (v := .bool go) (hy := fun E Wx hSw => by (go_simp; rw [HQ.out]; exact ⟨rfl, hSw⟩)) (h := ?_)
    refine qa ?_
    refine doneL (h := fun w1 S => ?_)
    replace S := Lib.hid S
    go_wp2_with fail
    go_meet
    exact ⟨rfl, S.out⟩
   ·
    obtain rfl : n = 0 := by omega
    obtain rfl : go = false := by rw [← HGO.out]; rfl
    refine regionL (E := [boxR b (.cells #[.bool false, .slice none 0 0] 167)]) (base := bA) S.out ?_
    clear S
    iterate 3 refine qa ?_
    iterate 6 refine qz ?_
    refine qa ?_
    refine doneL (h := fun w2 S => ?_)
    replace S := Lib.hid S
    go_wp2_with fail
    go_meet
    exact ⟨rfl, S.out⟩
  case rest =>
   obtain ⟨rfl, S⟩ := hcut
   replace S := Lib.hid S
   cases go with
   | true =>
    have hh : 0 < n ∧ digD l (n - 1) = 0 := by simpa using HGO.out
    obtain ⟨m, rfl⟩ : ∃ m, n = m + 1 := ⟨n - 1, by omega⟩
    have e3 : IntKind.i64.wrap (((m + 1 : Nat) : Int) - 1) = (m : Int) := by rw [show ((m + 1 : Nat) : Int) - 1 = (m : Int) by omega]; exact IntWalk.i64_in _ (by have := HN.out; have := HLM.out; omega)
    have e6 : IntKind.i64.wrap (m : Int) = (m : Int) := IntWalk.i64_in _ (by have := HN.out; have := HLM.out; omega)
    have HH := Lib.hid hh.2
    clear hh
    go_wp2
    exact ⟨⟨m, by have := HN.out; omega, rfl, Lib.hid (fun i d hi hm => by
     by_cases hji : i = m
     ·
      subst hji; have e := HH.out; unfold digD at e; rw [show i + 1 - 1 = i from rfl, hi] at e; exact e
     ·
      exact HZ.out i d hi (by omega)), S.out⟩, by first | (simp [intOf]; done) | (simp [intOf]; omega)⟩
   | false =>
    have hw : n = 0 ∨ ∀ d, l[n - 1]? = some d → d ≠ 0 := by
     by_cases hp : 0 < n
     ·
      right; intro d hd e; have h := HGO.out; rw [decide_eq_false_iff_not] at h; exact h ⟨hp, by unfold digD; rw [hd]; exact e⟩
     ·
      left; omega
    have ht : l.take n = digs (valD l) := trim_digs HD.out HN.out HZ.out hw
    have hnl : (l.take n).length = n := by rw [List.length_take]; have := HN.out; omega
    have hnn : (digs (valD l)).length = n := by rw [← ht]; exact hnl
    have hf : SeesD w (.slice a n c) (digs (valD l)) := by rw [← ht]; exact HS.out.front HN.out
    have hnz : decide (valD l ≠ 0) = decide (0 < n) := by
     have := digs_len (v := valD l); rw [hnn] at this
     by_cases h : valD l = 0 <;> simp [h] <;> omega
    have hbb := HBB0.out
    rw [hnz] at hbb
    rw [HD0.out] at hf hnn
    subst hnn
    have HF := Lib.hid hf
    have HBB := Lib.hid hbb
    have HNL := Lib.hid (show D.length ≤ 9000000 by have := HN.out; have := HLM.out; omega)
    have hcn : (D.length : Int) ≤ c := by have := HCC.out; have := HN.out; omega
    have hn0 : (0 : Int) ≤ D.length := by omega
    clear hw ht hnl hf hbb hnz HGO HZ HN
    cases ng with
    | false =>
     obtain rfl : bb = false := HBB.out.symm
     go_upto_region 4 with fail
     refine regionL (E := [emptyR, boxR b (.cells #[.bool false, .slice none 0 0] 167)]) (base := bA) (Sep.putE S.out) ?_
     clear S
     iterate 2 refine qa ?_
     iterate 2 refine qz ?_
     refine qa ?_
     refine stepL (fun v E1 => ∃ (q_3_1 : Nat), v = .slice (some ⟨q_3_1, 0, none⟩) 0 0 ∧ E1 = [dR (.slice (some ⟨q_3_1, 0, none⟩) 0 0) [], boxR b (.cells #[.bool false, .slice none 0 0] 167)]) (h1 := fun Wx hSw => by (go_simp; exact ⟨_, ⟨_, rfl, rfl⟩, (hSw.madeRow natC 1 3).into 0 rfl⟩)) (h2 := fun v E1 hvE => ?_)
     obtain ⟨q_3_1, rfl, rfl⟩ := hvE; simp only [Act.put, pa]; try dsimp only [List.set]
     iterate 3 refine qa ?_
     refine stepL (fun v E1 => ∃ (va_3_2 : Option Addr) (vc_3_2 : Nat), v = .slice va_3_2 D.length vc_3_2 ∧ E1 = [dR (.slice va_3_2 D.length vc_3_2) D, boxR b (.cells #[.bool false, .slice none 0 0] 167)]) (h1 := fun Wx hSw => by (obtain ⟨va, vc, w2, hr, S2⟩ := hSw.appendD 0 rfl rfl (ys := D) (HF.out.below hSw.below) D.length (by omega) HNL.out; exact symAppend _ _ _ _ rfl _ _ rfl rfl hr ⟨_, ⟨va, vc, rfl, rfl⟩, S2⟩)) (h2 := fun v E1 hvE => ?_)
     obtain ⟨va_3_2, vc_3_2, rfl, rfl⟩ := hvE; simp only [Act.put, pa]; try dsimp only [List.set]
     refine qa ?_
     refine qd undef [dR (.slice va_3_2 D.length vc_3_2) D, boxR b (.cells #[.bool false, .slice va_3_2 D.length vc_3_2] 167)] (h1 := fun Wx hSw => by (have hz := hSw.box (b := b) (o := .cells #[.bool false, .slice none 0 0] 167) 1 rfl; have z0 := cellAt hz 0 (v := .bool false) rfl; have y0 := frozenAt hz 0; have z1 := cellAt hz 1 (v := .slice none 0 0) rfl; have y1 := frozenAt hz 1; go_simp; exact ⟨rfl, (Sep.setBox (cs := #[.bool false, .slice none 0 0]) (t := 167) (Sep.setBox (cs := #[.bool false, .slice none 0 0]) (t := 167) hSw 1 rfl 0 (.bool false)) 1 rfl 1 (.slice va_3_2 D.length vc_3_2))⟩)) (h2 := ?_)
     refine doneL (h := fun w3 S => ?_)
     have r0 := cellAt (S.box (b := b) 1 rfl) 0 (v := .bool false) rfl
     have r1 := cellAt (S.box (b := b) 1 rfl) 1 (v := .slice va_3_2 D.length vc_3_2) rfl
     replace S := Lib.hid S
     repeat (first | go_values | go_skip | go_guarded | go_step)
     refine bodyPost_ret (v := .agg #[.bool false, .slice va_3_2 D.length vc_3_2]) ?_ ?_ ?_
     ·
      simp [results, Tryz.results176, go_sem, r0, r1]
     ·
      rfl
     refine ⟨va_3_2, vc_3_2, rfl, ?_⟩
     replace S := S.out
     rw [HBS.out] at S
     exact S.sub (.cons_cons _ (.cons _ (List.Sublist.refl _)))
    | true =>
     have hbn : decide (0 < D.length) = bb := by rw [← HBB.out]; simp
     have HBN := Lib.hid hbn
     clear hbn
     go_upto_region 4 with fail
     refine regionL (E := [emptyR, boxR b (.cells #[.bool false, .slice none 0 0] 167)]) (base := bA) (Sep.putE S.out) ?_
     clear S
     iterate 3 refine qa ?_
     refine qa (v := .bool bb) (hy := fun E Wx hSw => by (go_simp; rw [← HBN.out]; exact ⟨rfl, hSw⟩)) (h := ?_)
     refine qa ?_
     refine stepL (fun v E1 => ∃ (q_4_1 : Nat), v = .slice (some ⟨q_4_1, 0, none⟩) 0 0 ∧ E1 = [dR (.slice (some ⟨q_4_1, 0, none⟩) 0 0) [], boxR b (.cells #[.bool false, .slice none 0 0] 167)]) (h1 := fun Wx hSw => by (go_simp; exact ⟨_, ⟨_, rfl, rfl⟩, (hSw.madeRow natC 1 3).into 0 rfl⟩)) (h2 := fun v E1 hvE => ?_)
     obtain ⟨q_4_1, rfl, rfl⟩ := hvE; simp only [Act.put, pa]; try dsimp only [List.set]
     iterate 3 refine qa ?_
     refine stepL (fun v E1 => ∃ (va_4_2 : Option Addr) (vc_4_2 : Nat), v = .slice va_4_2 D.length vc_4_2 ∧ E1 = [dR (.slice va_4_2 D.length vc_4_2) D, boxR b (.cells #[.bool false, .slice none 0 0] 167)]) (h1 := fun Wx hSw => by (obtain ⟨va, vc, w2, hr, S2⟩ := hSw.appendD 0 rfl rfl (ys := D) (HF.out.below hSw.below) D.length (by omega) HNL.out; exact symAppend _ _ _ _ rfl _ _ rfl rfl hr ⟨_, ⟨va, vc, rfl, rfl⟩, S2⟩)) (h2 := fun v E1 hvE => ?_)
     obtain ⟨va_4_2, vc_4_2, rfl, rfl⟩ := hvE; simp only [Act.put, pa]; try dsimp only [List.set]
     refine qa ?_
     refine qd undef [dR (.slice va_4_2 D.length vc_4_2) D, boxR b (.cells #[.bool bb, .slice va_4_2 D.length vc_4_2] 167)] (h1 := fun Wx hSw => by (have hz := hSw.box (b := b) (o := .cells #[.bool false, .slice none 0 0] 167) 1 rfl; have z0 := cellAt hz 0 (v := .bool false) rfl; have y0 := frozenAt hz 0; have z1 := cellAt hz 1 (v := .slice none 0 0) rfl; have y1 := frozenAt hz 1; go_simp; exact ⟨rfl, (Sep.setBox (cs := #[.bool bb, .slice none 0 0]) (t := 167) (Sep.setBox (cs := #[.bool false, .slice none 0 0]) (t := 167) hSw 1 rfl 0 (.bool bb)) 1 rfl 1 (.slice va_4_2 D.length vc_4_2))⟩)) (h2 := ?_)
     refine doneL (h := fun w4 S => ?_)
     have r0 := cellAt (S.box (b := b) 1 rfl) 0 (v := .bool bb) rfl
     have r1 := cellAt (S.box (b := b) 1 rfl) 1 (v := .slice va_4_2 D.length vc_4_2) rfl
     replace S := Lib.hid S
     repeat (first | go_values | go_skip | go_guarded | go_step)
     refine bodyPost_ret (v := .agg #[.bool bb, .slice va_4_2 D.length vc_4_2]) ?_ ?_ ?_
     ·
      simp [results, Tryz.results176, go_sem, r0, r1]
     ·
      rfl
     refine ⟨va_4_2, vc_4_2, rfl, ?_⟩
     replace S := S.out
     rw [HBS.out] at S
     exact S.sub (.cons_cons _ (.cons _ (List.Sublist.refl _)))
theorem rwhole_at (S : Sep w Rs W) (ng : Bool) (sv : Value) (l : List Nat) (hs : SeesD W sv l) (hd : Digs l) (hlm : l.length ≤ 9000000) {q : Bool} {D : List Nat} (hq : (ng && decide (valD l ≠ 0)) = q) (hD : digs (valD l) = D) : Calls Tryz.prog 176 #[.bool ng, sv] W fun e W' => ∃ va vc, e = .returned (.agg #[.bool q, .slice va D.length vc]) ∧ Sep w (dR (.slice va D.length vc) D :: Rs) W' := by
 subst hq hD
 exact (rwhole_ok (Sep.start (Below.refl W.heap.size W)) ng sv l hs hd hlm).mono fun e W' ⟨va, vc, e1, T⟩ => ⟨va, vc, e1, S.join T⟩
theorem rplus_at (S : Sep w Rs W) (sa sb : Value) (a b : List Nat) (ha : SeesD W sa a) (hb : SeesD W sb b) (da : Digs a) (db : Digs b) (m : Nat) (hm : m = max a.length b.length + 1) (hlm : m ≤ 9000000) : Calls Tryz.prog 177 #[sa, sb] W fun e W' => ∃ va vc, e = .returned (.slice va m vc) ∧ Sep w (dR (.slice va m vc) (plusO a b m) :: Rs) W' :=
 (rplus_ok (Sep.start (Below.refl W.heap.size W)) sa sb a b ha hb da db m hm hlm).mono fun e W' ⟨va, vc, e1, T⟩ => ⟨va, vc, e1, S.join T⟩
theorem rless_at (S : Sep w Rs W) (sa sb : Value) (a b : List Nat) (ha : SeesD W sa a) (hb : SeesD W sb b) (da : Digs a) (db : Digs b) (hlm : a.length ≤ 9000000) : Calls Tryz.prog 179 #[sa, sb] W fun e W' => ∃ va vc, e = .returned (.slice va a.length vc) ∧ Sep w (dR (.slice va a.length vc) (lessO a b a.length) :: Rs) W' :=
 (rless_ok (Sep.start (Below.refl W.heap.size W)) sa sb a b ha hb da db hlm).mono fun e W' ⟨va, vc, e1, T⟩ => ⟨va, vc, e1, S.join T⟩
theorem rcomp_at (S : Sep w Rs W) (sa sb : Value) (a b : List Nat) (ha : SeesD W sa a) (hb : SeesD W sb b) (da : Digs a) (db : Digs b) : Calls Tryz.prog 178 #[sa, sb] W fun e W' => e = .returned (.int .i64 (compZ a b (max a.length b.length))) ∧ Sep w Rs W' :=
 (rcomp_ok W sa sb a b ha hb da db).mono fun e W' ⟨e1, e3⟩ => ⟨e1, by rw [e3]; exact S⟩
/-- The digits of a small number. -/
def four (m : Nat) : List Nat := [m % 65536, m / 65536 % 65536, m / 4294967296 % 65536, m / 281474976710656]
theorem four_val (m : Nat) : valD (four m) = m := by show m % 65536 + 65536 * (m / 65536 % 65536 + 65536 * (m / 4294967296 % 65536 + 65536 * (m / 281474976710656 + 65536 * 0))) = m; omega
theorem four_ok {m : Nat} (h : m ≤ 9223372036854775808) : Digs (four m) := fun d hd => by
 simp [four] at hd; omega
theorem seesFourD {W : World} {g d0 d1 d2 d3 : Nat} (hb : W.heap[g]? = some (.cells #[.int .i64 (d0 : Int), .int .i64 (d1 : Int), .int .i64 (d2 : Int), .int .i64 (d3 : Int)] 3)) : SeesD W (.slice (some ⟨g, 0, none⟩) 4 4) [d0, d1, d2, d3] := by
 refine ⟨_, 4, rfl, by simp, by simp [maxLen], .inr ⟨g, 0, rfl, fun i p hp => ?_⟩⟩
 match i, hp with
 | 0, hp => simp at hp; subst hp; exact cellAt hb 0 rfl
 | 1, hp => simp at hp; subst hp; exact cellAt hb 1 rfl
 | 2, hp => simp at hp; subst hp; exact cellAt hb 2 rfl
 | 3, hp => simp at hp; subst hp; exact cellAt hb 3 rfl
 | i + 4, hp => simp at hp
theorem rof8_ok (S : Sep w Rs W) (n : Int) (hn : okI n) : Calls Tryz.prog 136 #[.int .i64 n] W fun e W' => ∃ va vc, e = .returned (.agg #[.bool (decide (n < 0)), .slice va (digs n.natAbs).length vc]) ∧ Sep w (dR (.slice va (digs n.natAbs).length vc) (digs n.natAbs) :: Rs) W' := by
 obtain ⟨h1, h2⟩ := okI_rng hn
 obtain ⟨m, hm⟩ : ∃ m, m = n.natAbs := ⟨_, rfl⟩
 obtain ⟨q, hq⟩ : ∃ q, decide (n < 0) = q := ⟨_, rfl⟩
 obtain ⟨D, hD⟩ : ∃ D, digs m = D := ⟨_, rfl⟩
 rw [hq, ← hm, hD]
 have hml : m ≤ 9223372036854775808 := by omega
 obtain ⟨d0, hd0⟩ : ∃ d, d = m % 65536 := ⟨_, rfl⟩
 obtain ⟨d1, hd1⟩ : ∃ d, d = m / 65536 % 65536 := ⟨_, rfl⟩
 obtain ⟨d2, hd2⟩ : ∃ d, d = m / 4294967296 % 65536 := ⟨_, rfl⟩
 obtain ⟨d3, hd3⟩ : ∃ d, d = m / 281474976710656 := ⟨_, rfl⟩
 have t0 : (m : Int).tmod 65536 = (d0 : Int) := by rw [hd0, Int.tmod_eq_emod_of_nonneg (by omega)]; omega
 have t1 : (IntKind.u64.wrap ((m : Int) / 65536)).tmod 65536 = (d1 : Int) := by
  have e : IntKind.u64.wrap ((m : Int) / 65536) = (m : Int) / 65536 := by simp [IntKind.wrap, IntKind.bits, IntKind.signed]; omega
  rw [e, hd1, Int.tmod_eq_emod_of_nonneg (by omega)]; omega
 have t2 : (IntKind.u64.wrap ((m : Int) / 4294967296)).tmod 65536 = (d2 : Int) := by
  have e : IntKind.u64.wrap ((m : Int) / 4294967296) = (m : Int) / 4294967296 := by simp [IntKind.wrap, IntKind.bits, IntKind.signed]; omega
  rw [e, hd2, Int.tmod_eq_emod_of_nonneg (by omega)]; omega
 have t3 : IntKind.u64.wrap ((m : Int) / 281474976710656) = (d3 : Int) := by rw [hd3]; simp [IntKind.wrap, IntKind.bits, IntKind.signed]; omega
 have t4 : (m : Int).tdiv 281474976710656 = (d3 : Int) := by rw [hd3, Int.tdiv_eq_ediv_of_nonneg (by omega)]; omega
 have u0 : IntKind.u64.wrap (d0 : Int) = (d0 : Int) := by simp [IntKind.wrap, IntKind.bits, IntKind.signed]; omega
 have i0 : IntKind.i64.wrap (d0 : Int) = (d0 : Int) := IntWalk.i64_in _ (by omega)
 have u1 : IntKind.u64.wrap (d1 : Int) = (d1 : Int) := by simp [IntKind.wrap, IntKind.bits, IntKind.signed]; omega
 have i1 : IntKind.i64.wrap (d1 : Int) = (d1 : Int) := IntWalk.i64_in _ (by omega)
 have u2 : IntKind.u64.wrap (d2 : Int) = (d2 : Int) := by simp [IntKind.wrap, IntKind.bits, IntKind.signed]; omega
 have i2 : IntKind.i64.wrap (d2 : Int) = (d2 : Int) := IntWalk.i64_in _ (by omega)
 have u3 : IntKind.u64.wrap (d3 : Int) = (d3 : Int) := by simp [IntKind.wrap, IntKind.bits, IntKind.signed]; omega
 have i3 : IntKind.i64.wrap (d3 : Int) = (d3 : Int) := IntWalk.i64_in _ (by omega)
 have hL : [d0, d1, d2, d3] = four m := by rw [hd0, hd1, hd2, hd3]; rfl
 have HL := Lib.hid hL
 have HDG : Hid (Digs [d0, d1, d2, d3]) := Lib.hid (by rw [hL]; exact four_ok hml)
 have HV : Hid (digs (valD [d0, d1, d2, d3]) = D) := Lib.hid (by rw [hL, four_val, hD])
 have HQ : Hid ((q && decide (valD [d0, d1, d2, d3] ≠ 0)) = q) := Lib.hid (by rw [hL, four_val, ← hq]; by_cases h : n < 0 <;> simp [h] <;> omega)
 by_cases hz : n < 0
 ·
  have e2 : IntKind.u64.wrap (-IntKind.u64.wrap n) = (m : Int) := by rw [hm]; simp [IntKind.wrap, IntKind.bits, IntKind.signed]; omega
  obtain rfl : q = true := by rw [← hq]; simp [hz]
  clear hq hL hd0 hd1 hd2 hd3 hD hml hn h1 h2 hm
  obtain ⟨b, hb⟩ : ∃ gx_, (W.heap.size) = gx_ := ⟨_, rfl⟩
  replace S := (S.alloc (.cells #[.bool false, .slice none 0 0] 167))
  simp only [World.size_alloc, hb] at S
  obtain ⟨bA, hbs⟩ : ∃ l, l = Rs := ⟨_, rfl⟩
  have HBS := Lib.hid hbs
  replace S := enterP (w := w) (all := [boxR b (.cells #[.bool false, .slice none 0 0] 167)]) (E := [boxR b (.cells #[.bool false, .slice none 0 0] 167)]) (B := []) (Rs := Rs) S hbs (perm_of [0] (by show (List.range' 0 1).Perm [0]; decide) (by rfl))
  clear hbs
  replace S := Lib.hid S
  go_enter Tryz.func136, Tryz.ntmps136
  go_upto_region 4 with fail
  try simp only [World.size_alloc, hb]
  clear hb
  refine regionL (E := [emptyR, emptyR, boxR b (.cells #[.bool false, .slice none 0 0] 167)]) (base := bA) (Sep.putE (Sep.putE S.out)) ?_
  clear S
  iterate 16 refine qa ?_
  refine allocL 1 rfl (fun q => .slice (some ⟨q, 0, none⟩) 4 4) (.cells #[.int .i64 d0, .int .i64 d1, .int .i64 d2, .int .i64 d3] 3) (h1 := fun Wx => by go_simp) (h2 := fun qQ1 => ?_); simp only [Act.put, pa]; try dsimp only [List.set]
  try simp only [List.set_cons_zero, List.set_cons_succ]
  refine stepL (fun v E1 => ∃ (va_1_2 : Option Addr) (vc_1_2 : Nat), v = .agg #[.bool true, .slice va_1_2 D.length vc_1_2] ∧ E1 = [dR (.slice va_1_2 D.length vc_1_2) D, boxR qQ1 (.cells #[.int .i64 d0, .int .i64 d1, .int .i64 d2, .int .i64 d3] 3), boxR b (.cells #[.bool false, .slice none 0 0] 167)]) (h1 := fun Wx hSw => by (go_simp; refine symCallN ?_; have hh := rwhole_at hSw true _ [d0, d1, d2, d3] (seesFourD (hSw.box (b := qQ1) 1 rfl)) HDG.out (by simp) HQ.out HV.out; exact hh.mono fun e W' ⟨va, vc, e1, e2⟩ => ⟨_, _, e1, ⟨va, vc, rfl, rfl⟩, e2.into 0 rfl⟩)) (h2 := fun v E1 hvE => ?_)
  obtain ⟨va_1_2, vc_1_2, rfl, rfl⟩ := hvE; simp only [Act.put, pa]; try dsimp only [List.set]
  refine qd undef [dR (.slice va_1_2 D.length vc_1_2) D, boxR qQ1 (.cells #[.int .i64 d0, .int .i64 d1, .int .i64 d2, .int .i64 d3] 3), boxR b (.cells #[.bool true, .slice va_1_2 D.length vc_1_2] 167)] (h1 := fun Wx hSw => by (have hz := hSw.box (b := b) (o := .cells #[.bool false, .slice none 0 0] 167) 2 rfl; have z0 := cellAt hz 0 (v := .bool false) rfl; have y0 := frozenAt hz 0; have z1 := cellAt hz 1 (v := .slice none 0 0) rfl; have y1 := frozenAt hz 1; go_simp; exact ⟨rfl, (Sep.setBox (cs := #[.bool true, .slice none 0 0]) (t := 167) (Sep.setBox (cs := #[.bool false, .slice none 0 0]) (t := 167) hSw 2 rfl 0 (.bool true)) 2 rfl 1 (.slice va_1_2 D.length vc_1_2))⟩)) (h2 := ?_)
  refine doneL (h := fun w1 S => ?_)
  have r0 := cellAt (S.box (b := b) 2 rfl) 0 (v := .bool true) rfl
  have r1 := cellAt (S.box (b := b) 2 rfl) 1 (v := .slice va_1_2 D.length vc_1_2) rfl
  replace S := Lib.hid S
  repeat (first | go_values | go_skip | go_guarded | go_step)
  refine bodyPost_ret (v := .agg #[.bool true, .slice va_1_2 D.length vc_1_2]) ?_ ?_ ?_
  ·
   simp [results, Tryz.results136, go_sem, r0, r1]
  ·
   rfl
  refine ⟨va_1_2, vc_1_2, rfl, ?_⟩
  replace S := S.out
  rw [HBS.out] at S
  exact S.sub (.cons_cons _ (.cons _ (.cons _ (List.Sublist.refl _))))
 ·
  have e2 : IntKind.u64.wrap n = (m : Int) := by rw [hm]; simp [IntKind.wrap, IntKind.bits, IntKind.signed]; omega
  obtain rfl : q = false := by rw [← hq]; simp [hz]
  clear hq hL hd0 hd1 hd2 hd3 hD hml hn h1 h2 hm
  obtain ⟨b, hb⟩ : ∃ gx_, (W.heap.size) = gx_ := ⟨_, rfl⟩
  replace S := (S.alloc (.cells #[.bool false, .slice none 0 0] 167))
  simp only [World.size_alloc, hb] at S
  obtain ⟨bA, hbs⟩ : ∃ l, l = Rs := ⟨_, rfl⟩
  have HBS := Lib.hid hbs
  replace S := enterP (w := w) (all := [boxR b (.cells #[.bool false, .slice none 0 0] 167)]) (E := [boxR b (.cells #[.bool false, .slice none 0 0] 167)]) (B := []) (Rs := Rs) S hbs (perm_of [0] (by show (List.range' 0 1).Perm [0]; decide) (by rfl))
  clear hbs
  replace S := Lib.hid S
  go_enter Tryz.func136, Tryz.ntmps136
  go_upto_region 4 with fail
  try simp only [World.size_alloc, hb]
  clear hb
  refine regionL (E := [emptyR, emptyR, boxR b (.cells #[.bool false, .slice none 0 0] 167)]) (base := bA) (Sep.putE (Sep.putE S.out)) ?_
  clear S
  iterate 16 refine qa ?_
  refine allocL 1 rfl (fun q => .slice (some ⟨q, 0, none⟩) 4 4) (.cells #[.int .i64 d0, .int .i64 d1, .int .i64 d2, .int .i64 d3] 3) (h1 := fun Wx => by go_simp) (h2 := fun qQ1 => ?_); simp only [Act.put, pa]; try dsimp only [List.set]
  try simp only [List.set_cons_zero, List.set_cons_succ]
  refine stepL (fun v E1 => ∃ (va_51_2 : Option Addr) (vc_51_2 : Nat), v = .agg #[.bool false, .slice va_51_2 D.length vc_51_2] ∧ E1 = [dR (.slice va_51_2 D.length vc_51_2) D, boxR qQ1 (.cells #[.int .i64 d0, .int .i64 d1, .int .i64 d2, .int .i64 d3] 3), boxR b (.cells #[.bool false, .slice none 0 0] 167)]) (h1 := fun Wx hSw => by (go_simp; refine symCallN ?_; have hh := rwhole_at hSw false _ [d0, d1, d2, d3] (seesFourD (hSw.box (b := qQ1) 1 rfl)) HDG.out (by simp) HQ.out HV.out; exact hh.mono fun e W' ⟨va, vc, e1, e2⟩ => ⟨_, _, e1, ⟨va, vc, rfl, rfl⟩, e2.into 0 rfl⟩)) (h2 := fun v E1 hvE => ?_)
  obtain ⟨va_51_2, vc_51_2, rfl, rfl⟩ := hvE; simp only [Act.put, pa]; try dsimp only [List.set]
  refine qd undef [dR (.slice va_51_2 D.length vc_51_2) D, boxR qQ1 (.cells #[.int .i64 d0, .int .i64 d1, .int .i64 d2, .int .i64 d3] 3), boxR b (.cells #[.bool false, .slice va_51_2 D.length vc_51_2] 167)] (h1 := fun Wx hSw => by (have hz := hSw.box (b := b) (o := .cells #[.bool false, .slice none 0 0] 167) 2 rfl; have z0 := cellAt hz 0 (v := .bool false) rfl; have y0 := frozenAt hz 0; have z1 := cellAt hz 1 (v := .slice none 0 0) rfl; have y1 := frozenAt hz 1; go_simp; exact ⟨rfl, (Sep.setBox (cs := #[.bool false, .slice none 0 0]) (t := 167) (Sep.setBox (cs := #[.bool false, .slice none 0 0]) (t := 167) hSw 2 rfl 0 (.bool false)) 2 rfl 1 (.slice va_51_2 D.length vc_51_2))⟩)) (h2 := ?_)
  refine doneL (h := fun w51 S => ?_)
  have r0 := cellAt (S.box (b := b) 2 rfl) 0 (v := .bool false) rfl
  have r1 := cellAt (S.box (b := b) 2 rfl) 1 (v := .slice va_51_2 D.length vc_51_2) rfl
  replace S := Lib.hid S
  repeat (first | go_values | go_skip | go_guarded | go_step)
  refine bodyPost_ret (v := .agg #[.bool false, .slice va_51_2 D.length vc_51_2]) ?_ ?_ ?_
  ·
   simp [results, Tryz.results136, go_sem, r0, r1]
  ·
   rfl
  refine ⟨va_51_2, vc_51_2, rfl, ?_⟩
  replace S := S.out
  rw [HBS.out] at S
  exact S.sub (.cons_cons _ (.cons _ (.cons _ (List.Sublist.refl _))))
theorem rneg8_ok (S : Sep w Rs W) (z : Int) (sv : Value) (hx : SeesD w sv (digs z.natAbs)) (hl : (digs z.natAbs).length ≤ 9000000) : Calls Tryz.prog 138 #[.agg #[.bool (decide (z < 0)), sv]] W fun e W' => ∃ va vc, e = .returned (.agg #[.bool (decide (-z < 0)), .slice va (digs (-z).natAbs).length vc]) ∧ Sep w (dR (.slice va (digs (-z).natAbs).length vc) (digs (-z).natAbs) :: Rs) W' := by
 have hlx := hx.len
 have HX := Lib.hid hx
 obtain ⟨A, hA⟩ : ∃ A, digs z.natAbs = A := ⟨_, rfl⟩
 rw [hA] at HX hlx
 have hz2 : digs (-z).natAbs = A := by rw [Int.natAbs_neg]; exact hA
 rw [hz2]
 obtain ⟨bz, hbz⟩ : ∃ q, decide (z < 0) = q := ⟨_, rfl⟩
 obtain ⟨q, hq⟩ : ∃ q, decide (-z < 0) = q := ⟨_, rfl⟩
 rw [hbz, hq]
 have hv : valD A = z.natAbs := by rw [← hA]; exact digs_val _
 have HQ : Hid ((!bz && decide (valD A ≠ 0)) = q) := Lib.hid (by rw [hv, ← hbz, ← hq]; exact neg_flag z)
 have HD : Hid (digs (valD A) = A) := Lib.hid (by rw [hv]; exact hA)
 have HG : Hid (Digs A) := Lib.hid (by rw [← hA]; exact digs_ok _)
 have HL : Hid (A.length ≤ 9000000) := Lib.hid (by rw [← hA]; exact hl)
 clear hA hz2 hbz hq hv hx hl
 obtain ⟨b, hb⟩ : ∃ gx_, (W.heap.size) = gx_ := ⟨_, rfl⟩
 replace S := ((S.alloc (.cells #[.bool bz, sv] 167)).alloc (.cells #[.bool false, .slice none 0 0] 167))
 simp only [World.size_alloc, hb] at S
 obtain ⟨bA, hbs⟩ : ∃ l, l = boxR b (.cells #[.bool bz, sv] 167) :: Rs := ⟨_, rfl⟩
 have HBS := Lib.hid hbs
 replace S := enterP (w := w) (all := [boxR (b + 1) (.cells #[.bool false, .slice none 0 0] 167), boxR b (.cells #[.bool bz, sv] 167)]) (E := [boxR (b + 1) (.cells #[.bool false, .slice none 0 0] 167)]) (B := [boxR b (.cells #[.bool bz, sv] 167)]) (Rs := Rs) S hbs (perm_of [0, 1] (by show (List.range' 0 2).Perm [0, 1]; decide) (by rfl))
 have C0 : Hid (∀ W (Q : List Res), Sep w (Q ++ bA) W → W.cell? ⟨b, 0, none⟩ = some (.bool bz) ∧ W.cell? ⟨b, 1, none⟩ = some (sv)) := Lib.hid fun W Q T => by
  rw [hbs] at T
  have i0 := T.box (b := b) (o := .cells #[.bool bz, sv] 167) (Q.length + 0) (atR rfl)
  exact ⟨cellAt i0 0 rfl, cellAt i0 1 rfl⟩
 clear hbs
 replace S := Lib.hid S
 go_enter Tryz.func138, Tryz.ntmps138
 go_upto_region 1 with fail
 try simp only [World.size_alloc, hb]
 clear hb
 refine regionL (E := [emptyR, boxR (b + 1) (.cells #[.bool false, .slice none 0 0] 167)]) (base := bA) (Sep.putE S.out) ?_
 clear S
 refine qa ?_
 refine qc C0 ?_
 iterate 2 refine qa ?_
 refine qc C0 ?_
 refine stepL (fun v E1 => ∃ (va_1_1 : Option Addr) (vc_1_1 : Nat), v = .agg #[.bool q, .slice va_1_1 A.length vc_1_1] ∧ E1 = [dR (.slice va_1_1 A.length vc_1_1) A, boxR (b + 1) (.cells #[.bool false, .slice none 0 0] 167)]) (h1 := fun Wx hSw => by (go_simp; refine symCallN ?_; have hh := rwhole_at hSw (!bz) sv A (HX.out.below hSw.below) HG.out HL.out HQ.out HD.out; exact hh.mono fun e W' ⟨va, vc, e1, e2⟩ => ⟨_, _, e1, ⟨va, vc, rfl, rfl⟩, e2.into 0 rfl⟩)) (h2 := fun v E1 hvE => ?_)
 obtain ⟨va_1_1, vc_1_1, rfl, rfl⟩ := hvE; simp only [Act.put, pa]; try dsimp only [List.set]
 refine qd undef [dR (.slice va_1_1 A.length vc_1_1) A, boxR (b + 1) (.cells #[.bool q, .slice va_1_1 A.length vc_1_1] 167)] (h1 := fun Wx hSw => by (have hz := hSw.box (b := (b + 1)) (o := .cells #[.bool false, .slice none 0 0] 167) 1 rfl; have z0 := cellAt hz 0 (v := .bool false) rfl; have y0 := frozenAt hz 0; have z1 := cellAt hz 1 (v := .slice none 0 0) rfl; have y1 := frozenAt hz 1; go_simp; exact ⟨rfl, (Sep.setBox (cs := #[.bool q, .slice none 0 0]) (t := 167) (Sep.setBox (cs := #[.bool false, .slice none 0 0]) (t := 167) hSw 1 rfl 0 (.bool q)) 1 rfl 1 (.slice va_1_1 A.length vc_1_1))⟩)) (h2 := ?_)
 refine doneL (h := fun w1 S => ?_)
 have r0 := cellAt (S.box (b := b + 1) 1 rfl) 0 (v := .bool q) rfl
 have r1 := cellAt (S.box (b := b + 1) 1 rfl) 1 (v := .slice va_1_1 A.length vc_1_1) rfl
 replace S := Lib.hid S
 repeat (first | go_values | go_skip | go_guarded | go_step)
 refine bodyPost_ret (v := .agg #[.bool q, .slice va_1_1 A.length vc_1_1]) ?_ ?_ ?_
 ·
  simp [results, Tryz.results138, go_sem, r0, r1]
 ·
  rfl
 refine ⟨va_1_1, vc_1_1, rfl, ?_⟩
 replace S := S.out
 rw [HBS.out] at S
 exact S.sub (.cons_cons _ (.cons _ (.cons _ (List.Sublist.refl _))))
theorem radd8_ok (S : Sep w Rs W) (x y : Int) (sx sy : Value) (hx : SeesD w sx (digs x.natAbs)) (hy : SeesD w sy (digs y.natAbs)) (hl : (digs x.natAbs).length ≤ 4000000) (hk : (digs y.natAbs).length ≤ 4000000) : Calls Tryz.prog 137 #[.agg #[.bool (decide (x < 0)), sx], .agg #[.bool (decide (y < 0)), sy]] W fun e W' => ∃ va vc, e = .returned (.agg #[.bool (decide (x + y < 0)), .slice va (digs (x + y).natAbs).length vc]) ∧ Sep w (dR (.slice va (digs (x + y).natAbs).length vc) (digs (x + y).natAbs) :: Rs) W' := by
 have hlx := hx.len
 have hly := hy.len
 have HX := Lib.hid hx
 have HY := Lib.hid hy
 obtain ⟨A, hA⟩ : ∃ A, digs x.natAbs = A := ⟨_, rfl⟩
 obtain ⟨B, hB⟩ : ∃ B, digs y.natAbs = B := ⟨_, rfl⟩
 obtain ⟨D, hD⟩ : ∃ D, digs (x + y).natAbs = D := ⟨_, rfl⟩
 rw [hA] at HX hlx hl
 rw [hB] at HY hly hk
 rw [hD]
 obtain ⟨bx, hbx⟩ : ∃ q, decide (x < 0) = q := ⟨_, rfl⟩
 obtain ⟨by_, hby⟩ : ∃ q, decide (y < 0) = q := ⟨_, rfl⟩
 obtain ⟨q, hq⟩ : ∃ q, decide (x + y < 0) = q := ⟨_, rfl⟩
 rw [hbx, hby, hq]
 have hva : valD A = x.natAbs := by rw [← hA]; exact digs_val _
 have hvb : valD B = y.natAbs := by rw [← hB]; exact digs_val _
 have hga : Digs A := by rw [← hA]; exact digs_ok _
 have hgb : Digs B := by rw [← hB]; exact digs_ok _
 have HhD := Lib.hid hD
 have Hhbx := Lib.hid hbx
 have Hhby := Lib.hid hby
 have Hhq := Lib.hid hq
 have Hhva := Lib.hid hva
 have Hhvb := Lib.hid hvb
 have Hhga := Lib.hid hga
 have Hhgb := Lib.hid hgb
 have Hhl := Lib.hid hl
 have Hhk := Lib.hid hk
 clear hA hB hD hbx hby hq hva hvb hga hgb hx hy hl hk
 obtain ⟨b, hb⟩ : ∃ gx_, (W.heap.size) = gx_ := ⟨_, rfl⟩
 replace S := (((S.alloc (.cells #[.bool bx, sx] 167)).alloc (.cells #[.bool by_, sy] 167)).alloc (.cells #[.bool false, .slice none 0 0] 167))
 simp only [World.size_alloc, hb] at S
 obtain ⟨bA, hbs⟩ : ∃ l, l = boxR (b + 1) (.cells #[.bool by_, sy] 167) :: boxR b (.cells #[.bool bx, sx] 167) :: Rs := ⟨_, rfl⟩
 have HBS := Lib.hid hbs
 replace S := enterP (w := w) (all := [boxR (b + 1 + 1) (.cells #[.bool false, .slice none 0 0] 167), boxR (b + 1) (.cells #[.bool by_, sy] 167), boxR b (.cells #[.bool bx, sx] 167)]) (E := [boxR (b + 1 + 1) (.cells #[.bool false, .slice none 0 0] 167)]) (B := [boxR (b + 1) (.cells #[.bool by_, sy] 167), boxR b (.cells #[.bool bx, sx] 167)]) (Rs := Rs) S hbs (perm_of [0, 1, 2] (by show (List.range' 0 3).Perm [0, 1, 2]; decide) (by rfl))
 have C1 : Hid (∀ W (Q : List Res), Sep w (Q ++ bA) W → W.cell? ⟨b + 1, 0, none⟩ = some (.bool by_) ∧ W.cell? ⟨b + 1, 1, none⟩ = some (sy)) := Lib.hid fun W Q T => by
  rw [hbs] at T
  have i0 := T.box (b := b + 1) (o := .cells #[.bool by_, sy] 167) (Q.length + 0) (atR rfl)
  exact ⟨cellAt i0 0 rfl, cellAt i0 1 rfl⟩
 have C0 : Hid (∀ W (Q : List Res), Sep w (Q ++ bA) W → W.cell? ⟨b, 0, none⟩ = some (.bool bx) ∧ W.cell? ⟨b, 1, none⟩ = some (sx)) := Lib.hid fun W Q T => by
  rw [hbs] at T
  have i0 := T.box (b := b) (o := .cells #[.bool bx, sx] 167) (Q.length + 1) (atR rfl)
  exact ⟨cellAt i0 0 rfl, cellAt i0 1 rfl⟩
 clear hbs
 replace S := Lib.hid S
 go_enter Tryz.func137, Tryz.ntmps137
 go_upto_region 1 with fail
 try simp only [World.size_alloc, hb]
 clear hb
 by_cases hs : bx = by_
 ·
  subst hs
  have hbe : (bx == bx) = true := by simp
  refine regionL (E := [boxR (b + 1 + 1) (.cells #[.bool false, .slice none 0 0] 167)]) (base := bA) S.out ?_
  clear S
  refine qa ?_
  refine qc C0 ?_
  refine qa ?_
  refine qc C1 ?_
  refine qa ?_
  refine doneL (h := fun w1 S => ?_)
  replace S := Lib.hid S
  clear hbe
  obtain ⟨m, hm⟩ : ∃ m, m = max A.length B.length + 1 := ⟨_, rfl⟩
  have HM := Lib.hid hm
  clear hm
  have hsm : decide (x < 0) = decide (y < 0) := by rw [Hhbx.out, Hhby.out]
  have hpv : valD (plusO A B m) = (x + y).natAbs := by rw [plus_val Hhga.out Hhgb.out HM.out, Hhva.out, Hhvb.out]; exact (add_same hsm).1
  have HLO : Hid (Digs (plusO A B m)) := Lib.hid (plusO_ok _ _ _)
  have HLL : Hid ((plusO A B m).length ≤ 9000000) := Lib.hid (by rw [plusO_len]; have := HM.out; have := Hhl.out; have := Hhk.out; omega)
  have HDD : Hid (digs (valD (plusO A B m)) = D) := Lib.hid (by rw [hpv]; exact HhD.out)
  have HQQ : Hid ((bx && decide (valD (plusO A B m) ≠ 0)) = q) := Lib.hid (by rw [hpv, ← Hhq.out, ← Hhbx.out]; exact (add_same hsm).2)
  clear hsm
  clear hpv
  go_upto_region 2 with fail
  refine regionP 6 3 (E := [emptyR, emptyR, boxR (b + 1 + 1) (.cells #[.bool false, .slice none 0 0] 167)]) (base := bA) (Sep.putE (Sep.putE S.out)) ?_
  clear S
  refine qp ?_
  refine qpc C0 ?_
  refine qp ?_
  refine qpc C0 ?_
  refine qp ?_
  refine qpc C1 ?_
  refine endP ?_
  refine readyS [6] ?_
  refine stepS (fun v E1 => ∃ (va_2_1 : Option Addr) (vc_2_1 : Nat), v = .slice va_2_1 m vc_2_1 ∧ E1 = [emptyR, dR (.slice va_2_1 m vc_2_1) (plusO A B m), boxR (b + 1 + 1) (.cells #[.bool false, .slice none 0 0] 167)]) (h1 := fun Wx hSw => by (go_simp; refine symCallN ?_; have hh := rplus_at hSw sx sy A B (HX.out.below hSw.below) (HY.out.below hSw.below) Hhga.out Hhgb.out m HM.out (by have := HM.out; have := Hhl.out; have := Hhk.out; omega); exact hh.mono fun e W' ⟨va, vc, e1, e2⟩ => ⟨_, _, e1, ⟨va, vc, rfl, rfl⟩, e2.into 1 rfl⟩)) (h2 := fun v E1 hvE => ?_) (hs := nilS)
  obtain ⟨va_2_1, vc_2_1, rfl, rfl⟩ := hvE; simp only [Act.put, pa]; try dsimp only [List.set]
  refine readyS [7] ?_
  refine stepS (fun v E1 => ∃ (va_2_2 : Option Addr) (vc_2_2 : Nat), v = .agg #[.bool q, .slice va_2_2 D.length vc_2_2] ∧ E1 = [dR (.slice va_2_2 D.length vc_2_2) D, dR (.slice va_2_1 m vc_2_1) (plusO A B m), boxR (b + 1 + 1) (.cells #[.bool false, .slice none 0 0] 167)]) (h1 := fun Wx hSw => by (go_simp; refine symCallN ?_; have hh := rwhole_at hSw bx (.slice va_2_1 m vc_2_1) (plusO A B m) (hSw.seesD 1 rfl) HLO.out HLL.out HQQ.out HDD.out; exact hh.mono fun e W' ⟨va, vc, e1, e2⟩ => ⟨_, _, e1, ⟨va, vc, rfl, rfl⟩, e2.into 0 rfl⟩)) (h2 := fun v E1 hvE => ?_) (hs := nilS)
  obtain ⟨va_2_2, vc_2_2, rfl, rfl⟩ := hvE; simp only [Act.put, pa]; try dsimp only [List.set]
  refine readyS [8] ?_
  refine detS undef [dR (.slice va_2_2 D.length vc_2_2) D, dR (.slice va_2_1 m vc_2_1) (plusO A B m), boxR (b + 1 + 1) (.cells #[.bool q, .slice va_2_2 D.length vc_2_2] 167)] (h1 := fun Wx hSw => by (have hz := hSw.box (b := (b + 1 + 1)) (o := .cells #[.bool false, .slice none 0 0] 167) 2 rfl; have z0 := cellAt hz 0 (v := .bool false) rfl; have y0 := frozenAt hz 0; have z1 := cellAt hz 1 (v := .slice none 0 0) rfl; have y1 := frozenAt hz 1; go_simp; exact ⟨rfl, (Sep.setBox (cs := #[.bool q, .slice none 0 0]) (t := 167) (Sep.setBox (cs := #[.bool false, .slice none 0 0]) (t := 167) hSw 2 rfl 0 (.bool q)) 2 rfl 1 (.slice va_2_2 D.length vc_2_2))⟩)) (h2 := ?_) (hs := nilS); simp only [Act.put, pa]; try dsimp only [List.set]
  refine doneS (h := fun w2 S => ?_)
  have r0 := cellAt (S.box (b := b + 1 + 1) 2 rfl) 0 (v := .bool q) rfl
  have r1 := cellAt (S.box (b := b + 1 + 1) 2 rfl) 1 (v := .slice va_2_2 D.length vc_2_2) rfl
  replace S := Lib.hid S
  repeat (first | go_values | go_skip | go_guarded | go_step)
  refine bodyPost_ret (v := .agg #[.bool q, .slice va_2_2 D.length vc_2_2]) ?_ ?_ ?_
  ·
   simp [results, Tryz.results137, go_sem, r0, r1]
  ·
   rfl
  refine ⟨va_2_2, vc_2_2, rfl, ?_⟩
  replace S := S.out
  rw [HBS.out] at S
  exact S.sub (.cons_cons _ (.cons _ (.cons _ (.cons _ (.cons _ (List.Sublist.refl _))))))
 ·
  obtain rfl : by_ = !bx := by cases bx <;> cases by_ <;> simp_all
  have hbe : (bx == !bx) = false := by cases bx <;> rfl
  clear hs
  refine regionL (E := [boxR (b + 1 + 1) (.cells #[.bool false, .slice none 0 0] 167)]) (base := bA) S.out ?_
  clear S
  refine qa ?_
  refine qc C0 ?_
  refine qa ?_
  refine qc C1 ?_
  refine qa ?_
  refine doneL (h := fun w3 S => ?_)
  replace S := Lib.hid S
  clear hbe
  obtain ⟨cz, hcz⟩ : ∃ z, compZ A B (max A.length B.length) = z := ⟨_, rfl⟩
  have hge : 0 ≤ cz ↔ valD B ≤ valD A := by rw [← hcz]; have h := compZ_ge Hhga.out Hhgb.out (max A.length B.length); rwa [List.take_of_length_le (by omega), List.take_of_length_le (by omega)] at h
  have hop : decide (y < 0) = !decide (x < 0) := by rw [Hhbx.out, Hhby.out]
  have HCZ := Lib.hid hcz
  have HGE := Lib.hid hge
  have HOP := Lib.hid hop
  clear hcz hge hop
  have KC : QuietC w bA 178 #[sx, sy] (.int .i64 cz) := Lib.hid fun W Q T => by
   have hh := rcomp_at T sx sy A B (HX.out.below T.below) (HY.out.below T.below) Hhga.out Hhgb.out
   rw [HCZ.out] at hh
   exact hh
  by_cases hc : 0 ≤ cz
  ·
   have HC := Lib.hid hc
   go_upto_region 3 with fail
   refine regionL (E := [boxR (b + 1 + 1) (.cells #[.bool false, .slice none 0 0] 167)]) (base := bA) S.out ?_
   clear S
   refine qa ?_
   refine qc C0 ?_
   refine qa ?_
   refine qc C1 ?_
   refine qk KC ?_
   refine qa ?_
   refine doneL (h := fun w4 S => ?_)
   replace S := Lib.hid S
   clear hc
   have hle : valD B ≤ valD A := HGE.out.1 HC.out
   have hts := add_turn HOP.out (by rw [← Hhva.out, ← Hhvb.out]; exact hle)
   have hpv : valD (lessO A B A.length) = (x + y).natAbs := by rw [less_val Hhga.out Hhgb.out hle, Hhva.out, Hhvb.out]; exact hts.1
   have HLO : Hid (Digs (lessO A B A.length)) := Lib.hid (lessO_ok _ _ _)
   have HLL : Hid ((lessO A B A.length).length ≤ 9000000) := Lib.hid (by rw [lessO_len]; have := Hhl.out; omega)
   have HDD : Hid (digs (valD (lessO A B A.length)) = D) := Lib.hid (by rw [hpv]; exact HhD.out)
   have HQQ : Hid ((bx && decide (valD (lessO A B A.length) ≠ 0)) = q) := Lib.hid (by rw [hpv, ← Hhq.out, ← Hhbx.out]; exact hts.2)
   clear hpv hts hle
   go_upto_region 4 with fail
   refine regionP 6 3 (E := [emptyR, emptyR, boxR (b + 1 + 1) (.cells #[.bool false, .slice none 0 0] 167)]) (base := bA) (Sep.putE (Sep.putE S.out)) ?_
   clear S
   refine qp ?_
   refine qpc C0 ?_
   refine qp ?_
   refine qpc C0 ?_
   refine qp ?_
   refine qpc C1 ?_
   refine endP ?_
   refine readyS [6] ?_
   refine stepS (fun v E1 => ∃ (va_5_1 : Option Addr) (vc_5_1 : Nat), v = .slice va_5_1 A.length vc_5_1 ∧ E1 = [emptyR, dR (.slice va_5_1 A.length vc_5_1) (lessO A B A.length), boxR (b + 1 + 1) (.cells #[.bool false, .slice none 0 0] 167)]) (h1 := fun Wx hSw => by (go_simp; refine symCallN ?_; have hh := rless_at hSw sx sy A B (HX.out.below hSw.below) (HY.out.below hSw.below) Hhga.out Hhgb.out (by have := Hhl.out; omega); exact hh.mono fun e W' ⟨va, vc, e1, e2⟩ => ⟨_, _, e1, ⟨va, vc, rfl, rfl⟩, e2.into 1 rfl⟩)) (h2 := fun v E1 hvE => ?_) (hs := nilS)
   obtain ⟨va_5_1, vc_5_1, rfl, rfl⟩ := hvE; simp only [Act.put, pa]; try dsimp only [List.set]
   refine readyS [7] ?_
   refine stepS (fun v E1 => ∃ (va_5_2 : Option Addr) (vc_5_2 : Nat), v = .agg #[.bool q, .slice va_5_2 D.length vc_5_2] ∧ E1 = [dR (.slice va_5_2 D.length vc_5_2) D, dR (.slice va_5_1 A.length vc_5_1) (lessO A B A.length), boxR (b + 1 + 1) (.cells #[.bool false, .slice none 0 0] 167)]) (h1 := fun Wx hSw => by (go_simp; refine symCallN ?_; have hh := rwhole_at hSw bx (.slice va_5_1 A.length vc_5_1) (lessO A B A.length) (hSw.seesD 1 rfl) HLO.out HLL.out HQQ.out HDD.out; exact hh.mono fun e W' ⟨va, vc, e1, e2⟩ => ⟨_, _, e1, ⟨va, vc, rfl, rfl⟩, e2.into 0 rfl⟩)) (h2 := fun v E1 hvE => ?_) (hs := nilS)
   obtain ⟨va_5_2, vc_5_2, rfl, rfl⟩ := hvE; simp only [Act.put, pa]; try dsimp only [List.set]
   refine readyS [8] ?_
   refine detS undef [dR (.slice va_5_2 D.length vc_5_2) D, dR (.slice va_5_1 A.length vc_5_1) (lessO A B A.length), boxR (b + 1 + 1) (.cells #[.bool q, .slice va_5_2 D.length vc_5_2] 167)] (h1 := fun Wx hSw => by (have hz := hSw.box (b := (b + 1 + 1)) (o := .cells #[.bool false, .slice none 0 0] 167) 2 rfl; have z0 := cellAt hz 0 (v := .bool false) rfl; have y0 := frozenAt hz 0; have z1 := cellAt hz 1 (v := .slice none 0 0) rfl; have y1 := frozenAt hz 1; go_simp; exact ⟨rfl, (Sep.setBox (cs := #[.bool q, .slice none 0 0]) (t := 167) (Sep.setBox (cs := #[.bool false, .slice none 0 0]) (t := 167) hSw 2 rfl 0 (.bool q)) 2 rfl 1 (.slice va_5_2 D.length vc_5_2))⟩)) (h2 := ?_) (hs := nilS); simp only [Act.put, pa]; try dsimp only [List.set]
   refine doneS (h := fun w5 S => ?_)
   have r0 := cellAt (S.box (b := b + 1 + 1) 2 rfl) 0 (v := .bool q) rfl
   have r1 := cellAt (S.box (b := b + 1 + 1) 2 rfl) 1 (v := .slice va_5_2 D.length vc_5_2) rfl
   replace S := Lib.hid S
   repeat (first | go_values | go_skip | go_guarded | go_step)
   refine bodyPost_ret (v := .agg #[.bool q, .slice va_5_2 D.length vc_5_2]) ?_ ?_ ?_
   ·
    simp [results, Tryz.results137, go_sem, r0, r1]
   ·
    rfl
   refine ⟨va_5_2, vc_5_2, rfl, ?_⟩
   replace S := S.out
   rw [HBS.out] at S
   exact S.sub (.cons_cons _ (.cons _ (.cons _ (.cons _ (.cons _ (List.Sublist.refl _))))))
  ·
   have HC := Lib.hid hc
   go_upto_region 3 with fail
   refine regionL (E := [boxR (b + 1 + 1) (.cells #[.bool false, .slice none 0 0] 167)]) (base := bA) S.out ?_
   clear S
   refine qa ?_
   refine qc C0 ?_
   refine qa ?_
   refine qc C1 ?_
   refine qk KC ?_
   refine qa ?_
   refine doneL (h := fun w6 S => ?_)
   replace S := Lib.hid S
   clear hc
   have hle : valD A ≤ valD B := by rcases Nat.le_total (valD A) (valD B) with h | h; exact h; exact absurd (HGE.out.2 h) HC.out
   have hts := add_turn (x := y) (y := x) (by rw [HOP.out, Bool.not_not]) (by rw [← Hhva.out, ← Hhvb.out]; exact hle)
   rw [Int.add_comm y x] at hts
   have hpv : valD (lessO B A B.length) = (x + y).natAbs := by rw [less_val Hhgb.out Hhga.out hle, Hhvb.out, Hhva.out]; exact hts.1
   have HLO : Hid (Digs (lessO B A B.length)) := Lib.hid (lessO_ok _ _ _)
   have HLL : Hid ((lessO B A B.length).length ≤ 9000000) := Lib.hid (by rw [lessO_len]; have := Hhk.out; omega)
   have HDD : Hid (digs (valD (lessO B A B.length)) = D) := Lib.hid (by rw [hpv]; exact HhD.out)
   have HQQ : Hid (((!bx) && decide (valD (lessO B A B.length) ≠ 0)) = q) := Lib.hid (by rw [hpv, ← Hhq.out, ← Hhby.out]; exact hts.2)
   clear hpv hts hle
   go_upto_region 5 with fail
   refine regionP 6 3 (E := [emptyR, emptyR, boxR (b + 1 + 1) (.cells #[.bool false, .slice none 0 0] 167)]) (base := bA) (Sep.putE (Sep.putE S.out)) ?_
   clear S
   refine qp ?_
   refine qpc C1 ?_
   refine qp ?_
   refine qpc C1 ?_
   refine qp ?_
   refine qpc C0 ?_
   refine endP ?_
   refine readyS [6] ?_
   refine stepS (fun v E1 => ∃ (va_7_1 : Option Addr) (vc_7_1 : Nat), v = .slice va_7_1 B.length vc_7_1 ∧ E1 = [emptyR, dR (.slice va_7_1 B.length vc_7_1) (lessO B A B.length), boxR (b + 1 + 1) (.cells #[.bool false, .slice none 0 0] 167)]) (h1 := fun Wx hSw => by (go_simp; refine symCallN ?_; have hh := rless_at hSw sy sx B A (HY.out.below hSw.below) (HX.out.below hSw.below) Hhgb.out Hhga.out (by have := Hhk.out; omega); exact hh.mono fun e W' ⟨va, vc, e1, e2⟩ => ⟨_, _, e1, ⟨va, vc, rfl, rfl⟩, e2.into 1 rfl⟩)) (h2 := fun v E1 hvE => ?_) (hs := nilS)
   obtain ⟨va_7_1, vc_7_1, rfl, rfl⟩ := hvE; simp only [Act.put, pa]; try dsimp only [List.set]
   refine readyS [7] ?_
   refine stepS (fun v E1 => ∃ (va_7_2 : Option Addr) (vc_7_2 : Nat), v = .agg #[.bool q, .slice va_7_2 D.length vc_7_2] ∧ E1 = [dR (.slice va_7_2 D.length vc_7_2) D, dR (.slice va_7_1 B.length vc_7_1) (lessO B A B.length), boxR (b + 1 + 1) (.cells #[.bool false, .slice none 0 0] 167)]) (h1 := fun Wx hSw => by (go_simp; refine symCallN ?_; have hh := rwhole_at hSw (!bx) (.slice va_7_1 B.length vc_7_1) (lessO B A B.length) (hSw.seesD 1 rfl) HLO.out HLL.out HQQ.out HDD.out; exact hh.mono fun e W' ⟨va, vc, e1, e2⟩ => ⟨_, _, e1, ⟨va, vc, rfl, rfl⟩, e2.into 0 rfl⟩)) (h2 := fun v E1 hvE => ?_) (hs := nilS)
   obtain ⟨va_7_2, vc_7_2, rfl, rfl⟩ := hvE; simp only [Act.put, pa]; try dsimp only [List.set]
   refine readyS [8] ?_
   refine detS undef [dR (.slice va_7_2 D.length vc_7_2) D, dR (.slice va_7_1 B.length vc_7_1) (lessO B A B.length), boxR (b + 1 + 1) (.cells #[.bool q, .slice va_7_2 D.length vc_7_2] 167)] (h1 := fun Wx hSw => by (have hz := hSw.box (b := (b + 1 + 1)) (o := .cells #[.bool false, .slice none 0 0] 167) 2 rfl; have z0 := cellAt hz 0 (v := .bool false) rfl; have y0 := frozenAt hz 0; have z1 := cellAt hz 1 (v := .slice none 0 0) rfl; have y1 := frozenAt hz 1; go_simp; exact ⟨rfl, (Sep.setBox (cs := #[.bool q, .slice none 0 0]) (t := 167) (Sep.setBox (cs := #[.bool false, .slice none 0 0]) (t := 167) hSw 2 rfl 0 (.bool q)) 2 rfl 1 (.slice va_7_2 D.length vc_7_2))⟩)) (h2 := ?_) (hs := nilS); simp only [Act.put, pa]; try dsimp only [List.set]
   refine doneS (h := fun w7 S => ?_)
   have r0 := cellAt (S.box (b := b + 1 + 1) 2 rfl) 0 (v := .bool q) rfl
   have r1 := cellAt (S.box (b := b + 1 + 1) 2 rfl) 1 (v := .slice va_7_2 D.length vc_7_2) rfl
   replace S := Lib.hid S
   repeat (first | go_values | go_skip | go_guarded | go_step)
   refine bodyPost_ret (v := .agg #[.bool q, .slice va_7_2 D.length vc_7_2]) ?_ ?_ ?_
   ·
    simp [results, Tryz.results137, go_sem, r0, r1]
   ·
    rfl
   refine ⟨va_7_2, vc_7_2, rfl, ?_⟩
   replace S := S.out
   rw [HBS.out] at S
   exact S.sub (.cons_cons _ (.cons _ (.cons _ (.cons _ (.cons _ (List.Sublist.refl _))))))
end
end Go.Proofs.YtijlebhoapdfnaaGreat
