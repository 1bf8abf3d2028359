/- ch 16: the reference's teller: tell. -/
import Derived.Test.YtijlebhoapdfnaaGreatRTelC
set_option maxRecDepth 100000
set_option maxHeartbeats 12800000
namespace Go.Proofs.YtijlebhoapdfnaaGreat
set_option linter.unusedSimpArgs false
open Go.RowKit
set_option linter.unusedVariables false
attribute [local irreducible] wpSeqS wpAnyS wpPreS
theorem signs_x : (⟨#[91, 93]⟩ : ByteArray).extract 0 1 = ⟨#[91]⟩ ∧ (⟨#[91, 93]⟩ : ByteArray).extract 1 2 = ⟨#[93]⟩ ∧ (⟨#[40, 41]⟩ : ByteArray).extract 0 1 = ⟨#[40]⟩ ∧ (⟨#[40, 41]⟩ : ByteArray).extract 1 2 = ⟨#[41]⟩ := by decide +kernel
section
variable {w W : World} {Rs : List Res} {t h : Nat} {H : HeapM} {T : TelM} {P : V → Prop}
theorem rtell_step {N : Nat} (G : H.Good N) (hN : N ≤ 4000000) (PP : ∀ v, P v → H.wholeB v = false → (H.wholeB v = false ∧ (0 ≤ H.kind v ∧ H.kind v ≤ 12) ∧ (H.name v).size ≤ 1000000 ∧ v.s.size ≤ 1000000 ∧ okI v.n) ∧ (H.plainL v).length ≤ 9000000) (PI : ∀ v x, P v → x ∈ H.items v → P x) (PK : ∀ v p, P v → p ∈ H.pairs v → P p.1 ∧ P ((H.get v p.1).getD V.zero)) (f : Nat) (IH : ∀ g, f = g + 1 → TellR w t h H P g) : TellR w t h H P f := by
 intro Rs W T S i hi hT v hv d hd hd0
 obtain ⟨kx, hK⟩ : ∃ k, H.kind v = k := ⟨_, rfl⟩
 obtain ⟨wb, hW⟩ : ∃ b, H.wholeB v = b := ⟨_, rfl⟩
 have hwk : wb = decide (kx = 1 ∨ kx = 2 ∨ kx = 3) := by rw [← hW, ← hK]; unfold HeapM.wholeB HeapM.rowB; by_cases h1 : H.kind v = 1 <;> by_cases h2 : H.kind v = 2 <;> by_cases h3 : H.kind v = 3 <;> simp [h1, h2, h3]
 obtain ⟨out, fell⟩ := T
 have HK_ := Lib.hid hK
 have HW_ := Lib.hid hW
 have HWK := Lib.hid hwk
 have LT := Lib.hid hT
 have HI := Lib.hid hi
 have HV := Lib.hid hv
 have HD := Lib.hid (And.intro hd hd0)
 have HIH := Lib.hid IH
 have HPP := Lib.hid PP
 have HPI := Lib.hid PI
 have HPK := Lib.hid PK
 clear hK hW hwk hT hi hv hd hd0 IH PP PI PK
 obtain ⟨b, hb⟩ : ∃ gx_, (W.heap.size) = gx_ := ⟨_, rfl⟩
 replace S := (S.alloc (.cells #[.int .i64 v.kind, .int .i64 v.n, .string v.s] 24))
 simp only [World.size_alloc, hb] at S
 obtain ⟨bA, hbs⟩ : ∃ l, l = boxV b v :: Rs := ⟨_, rfl⟩
 have HBS := Lib.hid hbs
 replace S : Sep w ([boxR t (.cells #[.pointer (some ⟨h, 0, none⟩), .string ⟨List.toArray out⟩, .string fell.name, .int .i64 0, .int .i64 0, .string ⟨#[]⟩, .bool false] 149)] ++ bA) (W.alloc (.cells #[.int .i64 v.kind, .int .i64 v.n, .string v.s] 24)) := by rw [hbs]; exact S.swap
 have C0 := baseC3 (w := w) (b := b) hbs 0 rfl
 clear hbs
 replace S := Lib.hid S
 go_enter Tryz.func126, Tryz.ntmps126
 go_upto_region 1 with fail
 try simp only [World.size_alloc, hb]
 clear hb
 obtain ⟨bT, hnb⟩ : ∃ l, l = [boxR t (.cells #[.pointer (some ⟨h, 0, none⟩), .string ⟨List.toArray out⟩, .string fell.name, .int .i64 0, .int .i64 0, .string ⟨#[]⟩, .bool false] 149)] ++ bA := ⟨_, rfl⟩
 have HBbT := Lib.hid hnb
 replace S : Sep w ([] ++ bT) (W.alloc (.cells #[.int .i64 v.kind, .int .i64 v.n, .string v.s] 24)) := by
  rw [hnb]
  refine S.out.perm ?_
  exact (show ([boxR t (.cells #[.pointer (some ⟨h, 0, none⟩), .string ⟨List.toArray out⟩, .string fell.name, .int .i64 0, .int .i64 0, .string ⟨#[]⟩, .bool false] 149)] ++ bA).Perm ([] ++ ([boxR t (.cells #[.pointer (some ⟨h, 0, none⟩), .string ⟨List.toArray out⟩, .string fell.name, .int .i64 0, .int .i64 0, .string ⟨#[]⟩, .bool false] 149)] ++ bA)) from by rw [← List.append_assoc]; exact List.Perm.append_right bA (by exact perm_of [0] (by show (List.range' 0 1).Perm [0]; decide) (by rfl)))
 clear hnb
 replace S := Lib.hid S
 have C0_bT := liftC HBbT C0
 have Ct_bT : Hid (∀ W (Q : List Res), Sep w (Q ++ bT) W → W.cell? ⟨t, 0, none⟩ = some (.pointer (some ⟨h, 0, none⟩)) ∧ W.cell? ⟨t, 1, none⟩ = some (.string ⟨List.toArray out⟩) ∧ W.cell? ⟨t, 2, none⟩ = some (.string fell.name) ∧ W.cell? ⟨t, 3, none⟩ = some (.int .i64 0) ∧ W.cell? ⟨t, 4, none⟩ = some (.int .i64 0) ∧ W.cell? ⟨t, 5, none⟩ = some (.string ⟨#[]⟩) ∧ W.cell? ⟨t, 6, none⟩ = some (.bool false)) := Lib.hid fun W Q T => by
  rw [HBbT.out] at T
  have i0 := T.box (b := t) (o := .cells #[.pointer (some ⟨h, 0, none⟩), .string ⟨List.toArray out⟩, .string fell.name, .int .i64 0, .int .i64 0, .string ⟨#[]⟩, .bool false] 149) (Q.length + 0) (atR rfl)
  exact ⟨cellAt i0 0 rfl, cellAt i0 1 rfl, cellAt i0 2 rfl, cellAt i0 3 rfl, cellAt i0 4 rfl, cellAt i0 5 rfl, cellAt i0 6 rfl⟩
 have KK : QuietC w bT 60 #[.pointer (some ⟨h, 0, none⟩), .agg #[.int .i64 v.kind, .int .i64 v.n, .string v.s]] (.int .i64 kx) := Lib.hid fun W Q T => by
  rw [HBbT.out, HBS.out] at T ⊢
  exact rkind_at T (Q.length + 2 + i) (by rw [List.getElem?_append_right (by omega), show Q.length + 2 + i - Q.length = i + 2 by omega]; simpa using HI.out) v kx HK_.out
 refine regionP 7 0 (E := []) (base := bT) S.out ?_
 clear S
 iterate 3 refine qp ?_
 refine qp (hy := fun E Wx hSw => by ((obtain ⟨u0, u1, u2, u3, u4, u5, u6⟩ := Ct_bT.out _ _ hSw); go_simp; exact ⟨rfl, hSw⟩)) (h := ?_)
 refine qpc C0_bT ?_
 refine qpk KK ?_
 refine qp ?_
 refine endP ?_
 refine doneS (h := fun w1 S => ?_)
 replace S := Lib.hid S
 clear KK
 replace S : Hid (Sep w ([boxR t (.cells #[.pointer (some ⟨h, 0, none⟩), .string ⟨List.toArray out⟩, .string fell.name, .int .i64 0, .int .i64 0, .string ⟨#[]⟩, .bool false] 149)] ++ bA) w1) := Lib.hid (by have h_ := S.out; rw [HBbT.out] at h_; exact h_)
 clear C0_bT Ct_bT
 have HIA : Hid (bA[i + 1]? = some (refR h H)) := Lib.hid (by rw [HBS.out]; simpa using HI.out)
 cases fell with
 | memory =>
  replace S : Hid (Sep w ([boxR t (.cells #[.pointer (some ⟨h, 0, none⟩), .string ⟨List.toArray out⟩, .string memoryError, .int .i64 0, .int .i64 0, .string ⟨#[]⟩, .bool false] 149)] ++ bA) w1) := S
  go_upto_region 2 with fail
  refine regionL (E := [boxR t (.cells #[.pointer (some ⟨h, 0, none⟩), .string ⟨List.toArray out⟩, .string memoryError, .int .i64 0, .int .i64 0, .string ⟨#[]⟩, .bool false] 149)]) (base := bA) S.out ?_
  clear S
  iterate 3 refine qa ?_
  refine qd _ [boxR t (.cells #[.pointer (some ⟨h, 0, none⟩), .string ⟨List.toArray out⟩, .string memoryError, .int .i64 0, .int .i64 0, .string ⟨#[]⟩, .bool false] 149)] (h1 := fun Wx hSw => by (have hz := hSw.box (b := t) (o := .cells #[.pointer (some ⟨h, 0, none⟩), .string ⟨List.toArray out⟩, .string memoryError, .int .i64 0, .int .i64 0, .string ⟨#[]⟩, .bool false] 149) 0 rfl; have z0 := cellAt hz 0 (v := .pointer (some ⟨h, 0, none⟩)) rfl; have z1 := cellAt hz 1 (v := .string ⟨List.toArray out⟩) rfl; have z2 := cellAt hz 2 (v := .string memoryError) rfl; have z3 := cellAt hz 3 (v := .int .i64 0) rfl; have z4 := cellAt hz 4 (v := .int .i64 0) rfl; have z5 := cellAt hz 5 (v := .string ⟨#[]⟩) rfl; have z6 := cellAt hz 6 (v := .bool false) rfl; go_simp; exact ⟨rfl, hSw⟩)) (h2 := ?_)
  iterate 2 refine qa ?_
  refine doneL (h := fun w2 S => ?_)
  replace S := Lib.hid S
  have e9 : H.tellG f v ⟨out, .memory⟩ = ⟨out, .memory⟩ := HeapM.tellG_fell (by simp)
  go_wp2_with fail
  first | go_end0 | go_returns
  try rw [e9]
  replace S := S.out
  rw [HBS.out] at S
  exact ⟨rfl, S.sub (.cons_cons _ (.cons _ (List.Sublist.refl _)))⟩
 | deep =>
  replace S : Hid (Sep w ([boxR t (.cells #[.pointer (some ⟨h, 0, none⟩), .string ⟨List.toArray out⟩, .string recursionError, .int .i64 0, .int .i64 0, .string ⟨#[]⟩, .bool false] 149)] ++ bA) w1) := S
  go_upto_region 2 with fail
  refine regionL (E := [boxR t (.cells #[.pointer (some ⟨h, 0, none⟩), .string ⟨List.toArray out⟩, .string recursionError, .int .i64 0, .int .i64 0, .string ⟨#[]⟩, .bool false] 149)]) (base := bA) S.out ?_
  clear S
  iterate 3 refine qa ?_
  refine qd _ [boxR t (.cells #[.pointer (some ⟨h, 0, none⟩), .string ⟨List.toArray out⟩, .string recursionError, .int .i64 0, .int .i64 0, .string ⟨#[]⟩, .bool false] 149)] (h1 := fun Wx hSw => by (have hz := hSw.box (b := t) (o := .cells #[.pointer (some ⟨h, 0, none⟩), .string ⟨List.toArray out⟩, .string recursionError, .int .i64 0, .int .i64 0, .string ⟨#[]⟩, .bool false] 149) 0 rfl; have z0 := cellAt hz 0 (v := .pointer (some ⟨h, 0, none⟩)) rfl; have z1 := cellAt hz 1 (v := .string ⟨List.toArray out⟩) rfl; have z2 := cellAt hz 2 (v := .string recursionError) rfl; have z3 := cellAt hz 3 (v := .int .i64 0) rfl; have z4 := cellAt hz 4 (v := .int .i64 0) rfl; have z5 := cellAt hz 5 (v := .string ⟨#[]⟩) rfl; have z6 := cellAt hz 6 (v := .bool false) rfl; go_simp; exact ⟨rfl, hSw⟩)) (h2 := ?_)
  iterate 2 refine qa ?_
  refine doneL (h := fun w3 S => ?_)
  replace S := Lib.hid S
  have e9 : H.tellG f v ⟨out, .deep⟩ = ⟨out, .deep⟩ := HeapM.tellG_fell (by simp)
  go_wp2_with fail
  first | go_end0 | go_returns
  try rw [e9]
  replace S := S.out
  rw [HBS.out] at S
  exact ⟨rfl, S.sub (.cons_cons _ (.cons _ (List.Sublist.refl _)))⟩
 | no =>
  replace S : Hid (Sep w ([boxR t (.cells #[.pointer (some ⟨h, 0, none⟩), .string ⟨List.toArray out⟩, .string ⟨#[]⟩, .int .i64 0, .int .i64 0, .string ⟨#[]⟩, .bool false] 149)] ++ bA) w1) := S
  go_upto_region 2 with fail
  refine regionL (E := [boxR t (.cells #[.pointer (some ⟨h, 0, none⟩), .string ⟨List.toArray out⟩, .string ⟨#[]⟩, .int .i64 0, .int .i64 0, .string ⟨#[]⟩, .bool false] 149)]) (base := bA) S.out ?_
  clear S
  iterate 3 refine qa ?_
  refine qd _ [boxR t (.cells #[.pointer (some ⟨h, 0, none⟩), .string ⟨List.toArray out⟩, .string ⟨#[]⟩, .int .i64 0, .int .i64 0, .string ⟨#[]⟩, .bool false] 149)] (h1 := fun Wx hSw => by (have hz := hSw.box (b := t) (o := .cells #[.pointer (some ⟨h, 0, none⟩), .string ⟨List.toArray out⟩, .string ⟨#[]⟩, .int .i64 0, .int .i64 0, .string ⟨#[]⟩, .bool false] 149) 0 rfl; have z0 := cellAt hz 0 (v := .pointer (some ⟨h, 0, none⟩)) rfl; have z1 := cellAt hz 1 (v := .string ⟨List.toArray out⟩) rfl; have z2 := cellAt hz 2 (v := .string ⟨#[]⟩) rfl; have z3 := cellAt hz 3 (v := .int .i64 0) rfl; have z4 := cellAt hz 4 (v := .int .i64 0) rfl; have z5 := cellAt hz 5 (v := .string ⟨#[]⟩) rfl; have z6 := cellAt hz 6 (v := .bool false) rfl; go_simp; exact ⟨rfl, hSw⟩)) (h2 := ?_)
  iterate 2 refine qa ?_
  refine doneL (h := fun w4 S => ?_)
  replace S := Lib.hid S
  obtain ⟨nb, hnb⟩ : ∃ b, (!wb) = b := ⟨_, rfl⟩
  have HNB := Lib.hid hnb
  clear hnb
  go_upto_region 3 with fail
  go_cut [31] (fun s31 wx => s31 = .bool nb ∧ Sep w ([boxR t (.cells #[.pointer (some ⟨h, 0, none⟩), .string ⟨List.toArray out⟩, .string ⟨#[]⟩, .int .i64 0, .int .i64 0, .string ⟨#[]⟩, .bool false] 149)] ++ bA) wx)
  case first =>
   by_cases k1 : kx = 1
   ·
    subst k1
    obtain rfl : nb = false := by rw [← HNB.out, HWK.out]; simp
    refine regionL (E := [boxR t (.cells #[.pointer (some ⟨h, 0, none⟩), .string ⟨List.toArray out⟩, .string ⟨#[]⟩, .int .i64 0, .int .i64 0, .string ⟨#[]⟩, .bool false] 149)]) (base := bA) S.out ?_
    clear S
    iterate 3 refine qa ?_
    iterate 2 refine qz ?_
    iterate 2 refine qa ?_
    iterate 2 refine qz ?_
    refine qa ?_
    refine doneL (h := fun w5 S => ?_)
    replace S := Lib.hid S
    go_wp2_with fail
    go_meet
    exact ⟨rfl, S.out⟩
   by_cases k2 : kx = 2
   ·
    subst k2
    obtain rfl : nb = false := by rw [← HNB.out, HWK.out]; simp
    clear k1
    refine regionL (E := [boxR t (.cells #[.pointer (some ⟨h, 0, none⟩), .string ⟨List.toArray out⟩, .string ⟨#[]⟩, .int .i64 0, .int .i64 0, .string ⟨#[]⟩, .bool false] 149)]) (base := bA) S.out ?_
    clear S
    iterate 7 refine qa ?_
    iterate 2 refine qz ?_
    refine qa ?_
    refine doneL (h := fun w6 S => ?_)
    replace S := Lib.hid S
    go_wp2_with fail
    go_meet
    exact ⟨rfl, S.out⟩
   by_cases k3 : kx = 3
   ·
    subst k3
    obtain rfl : nb = false := by rw [← HNB.out, HWK.out]; simp
    clear k1 k2
    refine regionL (E := [boxR t (.cells #[.pointer (some ⟨h, 0, none⟩), .string ⟨List.toArray out⟩, .string ⟨#[]⟩, .int .i64 0, .int .i64 0, .string ⟨#[]⟩, .bool false] 149)]) (base := bA) S.out ?_
    clear S
    iterate 10 refine qa ?_
    refine doneL (h := fun w7 S => ?_)
    replace S := Lib.hid S
    go_wp2_with fail
    go_meet
    exact ⟨rfl, S.out⟩
   ·
    obtain rfl : nb = true := by rw [← HNB.out, HWK.out]; simp [k1, k2, k3]
    have g1 : (kx != 1) = true := by simp [k1]
    have g2 : (kx != 2) = true := by simp [k2]
    have g3 : (kx != 3) = true := by simp [k3]
    clear k1 k2 k3
    refine regionL (E := [boxR t (.cells #[.pointer (some ⟨h, 0, none⟩), .string ⟨List.toArray out⟩, .string ⟨#[]⟩, .int .i64 0, .int .i64 0, .string ⟨#[]⟩, .bool false] 149)]) (base := bA) S.out ?_
    clear S
    iterate 10 refine qa ?_
    refine doneL (h := fun w8 S => ?_)
    replace S := Lib.hid S
    go_wp2_with fail
    go_meet
    exact ⟨rfl, S.out⟩
  case rest =>
   obtain ⟨rfl, S⟩ := hcut
   replace S := Lib.hid S
   have LO : Hid ((⟨out, .no⟩ : TelM).out.length ≤ 65536) := LT
   cases wb with
   | false =>
    obtain rfl : nb = true := HNB.out.symm
    obtain ⟨pl, hpl⟩ : ∃ l, H.plainL v = l := ⟨_, rfl⟩
    have hpp := HPP.out v HV.out HW_.out
    have HPL := Lib.hid hpl
    have hpz : (⟨pl.toArray⟩ : ByteArray).size ≤ 9000000 := by show pl.toArray.size ≤ _; rw [List.size_toArray, ← hpl]; omega
    have HPZ := Lib.hid hpz
    have HPV := Lib.hid hpp.1
    clear hpl hpz hpp
    obtain ⟨T1, hT1⟩ : ∃ x, TelM.say ⟨out, .no⟩ pl = x := ⟨_, rfl⟩
    have XT1 := Lib.hid hT1
    clear hT1
    go_upto_region 4 with fail
    refine regionL (E := [boxR t (.cells #[.pointer (some ⟨h, 0, none⟩), .string ⟨List.toArray out⟩, .string ⟨#[]⟩, .int .i64 0, .int .i64 0, .string ⟨#[]⟩, .bool false] 149)]) (base := bA) S.out ?_
    clear S
    iterate 2 refine qa ?_
    refine qc C0 ?_
    refine qd (.string ⟨pl.toArray⟩) [boxR t (.cells #[.pointer (some ⟨h, 0, none⟩), .string ⟨List.toArray out⟩, .string ⟨#[]⟩, .int .i64 0, .int .i64 0, .string ⟨#[]⟩, .bool false] 149)] (h1 := fun Wx hSw => by (go_simp; refine symCall ?_; have hh := rplain_ok (T := (⟨out, .no⟩ : TelM)) hSw 0 rfl (i + 2) (by simpa using HIA.out) v HPV.out; rw [HPL.out] at hh; exact hh)) (h2 := ?_)
    refine qd (.tuple #[]) [boxR t (.cells #[.pointer (some ⟨h, 0, none⟩), .string ⟨List.toArray T1.out⟩, .string T1.fell.name, .int .i64 0, .int .i64 0, .string ⟨#[]⟩, .bool false] 149)] (h1 := fun Wx hSw => by (go_simp; refine symCall ?_; have hh := rsay_ok (T := (⟨out, .no⟩ : TelM)) hSw ⟨pl.toArray⟩ LO.out HPZ.out; rw [show TelM.say (⟨out, .no⟩ : TelM) (ByteArray.data ⟨pl.toArray⟩).toList = T1 from XT1.out] at hh; exact hh)) (h2 := ?_)
    refine doneL (h := fun w9 S => ?_)
    replace S := Lib.hid S
    have e9 : H.tellG f v ⟨out, .no⟩ = T1 := by rw [← XT1.out, ← HPL.out]; have hw := HW_.out; cases f <;> (unfold HeapM.tellG HeapM.tellT; simp only [hw]; rfl)
    go_wp2_with fail
    first | go_end0 | go_returns
    try rw [e9]
    replace S := S.out
    rw [HBS.out] at S
    exact ⟨rfl, S.sub (.cons_cons _ (.cons _ (List.Sublist.refl _)))⟩
   | true =>
    obtain rfl : nb = false := HNB.out.symm
    cases f with
    | zero =>
     obtain rfl : d = 30 := by have := HD.out.1; omega
     have KE : QuietC w bA 94 #[.string recursionError] (excN recursionError) := Lib.hid fun W Q T => by
      exact rexc_ok T recursionError
     go_upto_region 6 with fail
     refine regionL (E := [boxR t (.cells #[.pointer (some ⟨h, 0, none⟩), .string ⟨List.toArray out⟩, .string ⟨#[]⟩, .int .i64 0, .int .i64 0, .string ⟨#[]⟩, .bool false] 149)]) (base := bA) S.out ?_
     clear S
     refine qa ?_
     refine qk KE ?_
     iterate 2 refine qa ?_
     refine qd (undef) [boxR t (.cells #[.pointer (some ⟨h, 0, none⟩), .string ⟨List.toArray out⟩, .string recursionError, .int .i64 0, .int .i64 0, .string ⟨#[]⟩, .bool false] 149)] (h1 := fun Wx hSw => by (have hz := hSw.box (b := t) (o := .cells #[.pointer (some ⟨h, 0, none⟩), .string ⟨List.toArray out⟩, .string ⟨#[]⟩, .int .i64 0, .int .i64 0, .string ⟨#[]⟩, .bool false] 149) 0 rfl; have z2 := cellAt hz 2 (v := .string ⟨#[]⟩) rfl; have y2 := frozenAt hz 2; have z3 := cellAt hz 3 (v := .int .i64 0) rfl; have y3 := frozenAt hz 3; have z4 := cellAt hz 4 (v := .int .i64 0) rfl; have y4 := frozenAt hz 4; have z5 := cellAt hz 5 (v := .string ⟨#[]⟩) rfl; have y5 := frozenAt hz 5; have z6 := cellAt hz 6 (v := .bool false) rfl; have y6 := frozenAt hz 6; go_simp; exact ⟨rfl, (Sep.setBox (cs := #[.pointer (some ⟨h, 0, none⟩), .string ⟨List.toArray out⟩, .string recursionError, .int .i64 0, .int .i64 0, .string ⟨#[]⟩, .bool false]) (t := 149) (Sep.setBox (cs := #[.pointer (some ⟨h, 0, none⟩), .string ⟨List.toArray out⟩, .string recursionError, .int .i64 0, .int .i64 0, .string ⟨#[]⟩, .bool false]) (t := 149) (Sep.setBox (cs := #[.pointer (some ⟨h, 0, none⟩), .string ⟨List.toArray out⟩, .string recursionError, .int .i64 0, .int .i64 0, .string ⟨#[]⟩, .bool false]) (t := 149) (Sep.setBox (cs := #[.pointer (some ⟨h, 0, none⟩), .string ⟨List.toArray out⟩, .string recursionError, .int .i64 0, .int .i64 0, .string ⟨#[]⟩, .bool false]) (t := 149) (Sep.setBox (cs := #[.pointer (some ⟨h, 0, none⟩), .string ⟨List.toArray out⟩, .string ⟨#[]⟩, .int .i64 0, .int .i64 0, .string ⟨#[]⟩, .bool false]) (t := 149) hSw 0 rfl 2 (.string recursionError)) 0 rfl 3 (.int .i64 0)) 0 rfl 4 (.int .i64 0)) 0 rfl 5 (.string ⟨#[]⟩)) 0 rfl 6 (.bool false))⟩)) (h2 := ?_)
     refine doneL (h := fun w10 S => ?_)
     replace S := Lib.hid S
     have e9 : H.tellG 0 v ⟨out, .no⟩ = ⟨out, .deep⟩ := by have hw := HW_.out; unfold HeapM.tellG HeapM.tellT; simp only [hw]; rfl
     go_wp2_with fail
     first | go_end0 | go_returns
     try rw [e9]
     replace S := S.out
     rw [HBS.out] at S
     exact ⟨rfl, S.sub (.cons_cons _ (.cons _ (List.Sublist.refl _)))⟩
    | succ g =>
     have hd30 : d < 30 := by have := HD.out.1; omega
     have ih := HIH.out g rfl
     have IHG := Lib.hid ih
     clear ih
     have hdg : d + 1 + (g : Int) = 30 := by have := HD.out.1; omega
     have HDG := Lib.hid hdg
     clear hdg
     by_cases k3 : kx = 3
     ·
      subst k3
      have e9 : H.tellG (g + 1) v ⟨out, .no⟩ = rowF [123] [125] ((H.pairs v).map fun p => fun t => H.tellG g ((H.get v p.1).getD V.zero) ((H.tellG g p.1 t).say [58, 32])) ⟨out, .no⟩ := by
       have hw := HW_.out; have hk := HK_.out; rw [HeapM.tellG]; unfold HeapM.tellT; simp only [hw, hk]; rfl
      obtain ⟨T1, hT1⟩ : ∃ x, H.tellG (g + 1) v ⟨out, .no⟩ = x := ⟨_, rfl⟩
      rw [hT1] at e9
      have XT1 := Lib.hid hT1
      have E9 := Lib.hid e9
      clear hT1 e9
      go_upto_region 8 with fail
      refine regionL (E := [boxR t (.cells #[.pointer (some ⟨h, 0, none⟩), .string ⟨List.toArray out⟩, .string ⟨#[]⟩, .int .i64 0, .int .i64 0, .string ⟨#[]⟩, .bool false] 149)]) (base := bA) S.out ?_
      clear S
      refine qa ?_
      refine qc C0 ?_
      refine qa ?_
      refine qd (.tuple #[]) [boxR t (.cells #[.pointer (some ⟨h, 0, none⟩), .string ⟨List.toArray T1.out⟩, .string T1.fell.name, .int .i64 0, .int .i64 0, .string ⟨#[]⟩, .bool false] 149)] (h1 := fun Wx hSw => by (go_simp; refine symCall ?_; have hh := rdict_ok (T := (⟨out, .no⟩ : TelM)) G hN IHG.out hSw (i + 1) HIA.out LO.out v (fun p hp => HPK.out v p HV.out hp) d HDG.out HD.out.2; rw [← E9.out] at hh; exact hh)) (h2 := ?_)
      refine doneL (h := fun w11 S => ?_)
      replace S := Lib.hid S
      go_wp2_with fail
      first | go_end0 | go_returns
      rw [XT1.out]
      replace S := S.out
      rw [HBS.out] at S
      exact ⟨rfl, S.sub (.cons_cons _ (.cons _ (List.Sublist.refl _)))⟩
     ·
      obtain ⟨XS, hXS⟩ : ∃ l, H.items v = l := ⟨_, rfl⟩
      obtain ⟨PS, hPS⟩ : ∃ PS, (XS.map fun x => H.tellG g x) = PS := ⟨_, rfl⟩
      have hlen : PS.length = XS.length := by rw [← hPS, List.length_map]
      have hps : ∀ p ∈ PS, ∀ t : TelM, t.fell ≠ .no → p t = t := fun p hp t ht => by
       rw [← hPS] at hp; obtain ⟨x, -, rfl⟩ := List.mem_map.1 hp
       exact HeapM.tellG_fell ht
      have hat : ∀ (k : Nat) (x : V), XS[k]? = some x → PS[k]? = some (fun t => H.tellG g x t) ∧ P x := fun k x hk => ⟨by rw [← hPS, List.getElem?_map, hk]; rfl, HPI.out v x HV.out (by rw [hXS]; exact List.mem_of_getElem? hk)⟩
      have hle : ∀ T0 : TelM, T0.out.length ≤ 65536 → (partsF true PS T0).out.length ≤ 65536 := fun T0 h0 => partsF_le _ _ h0 fun p hp t ht => by
       rw [← hPS] at hp; obtain ⟨x, -, rfl⟩ := List.mem_map.1 hp
       exact HeapM.tellG_le g _ ht
      have hk12 : kx = 1 ∨ kx = 2 := by have h := HWK.out; simp at h; omega
      have hwr : IntKind.i64.wrap (d + 1) = d + 1 := IntWalk.i64_in _ (by have := HD.out.2; omega)
      have hres : H.tellG (g + 1) v ⟨out, .no⟩ = if kx = 1 then (partsF true PS (TelM.say ⟨out, .no⟩ [91])).say [93] else if XS.length = 1 then ((partsF true PS (TelM.say ⟨out, .no⟩ [40])).say [44]).say [41] else (partsF true PS (TelM.say ⟨out, .no⟩ [40])).say [41] := by
       have hw := HW_.out; have hk := HK_.out; rw [HeapM.tellG]; unfold HeapM.tellT; simp only [hw]
       rw [hXS, hPS, hk]
       rcases hk12 with e | e
       ·
        rw [e]; rfl
       ·
        rw [e]; rfl
      have HXS := Lib.hid hXS
      have HLEN := Lib.hid hlen
      have HPS := Lib.hid hps
      have HAT := Lib.hid hat
      have HLE := Lib.hid hle
      have HRES := Lib.hid hres
      clear hXS hPS hlen hps hat hle hres
      by_cases k2 : kx = 2
      ·
       subst k2
       clear k3 hk12
       obtain ⟨TE, hTE⟩ : ∃ x, partsF true PS (TelM.say ⟨out, .no⟩ [40]) = x := ⟨_, rfl⟩
       have HTE := Lib.hid hTE
       have LTE : Hid (TE.out.length ≤ 65536) := Lib.hid (by rw [← hTE]; exact HLE.out _ (TelM.out_le LO.out _))
       clear hTE
       obtain ⟨T1, hT1⟩ : ∃ x, TelM.say (⟨out, .no⟩ : TelM) [40] = x := ⟨_, rfl⟩
       have XT1 := Lib.hid hT1
       have LT1 : Hid ((T1).out.length ≤ 65536) := Lib.hid (by rw [← hT1]; exact TelM.out_le LO.out _)
       clear hT1
       go_upto_region 12 with fail
       refine regionL (E := [boxR t (.cells #[.pointer (some ⟨h, 0, none⟩), .string ⟨List.toArray out⟩, .string ⟨#[]⟩, .int .i64 0, .int .i64 0, .string ⟨#[]⟩, .bool false] 149)]) (base := bA) S.out ?_
       clear S
       iterate 2 refine qa ?_
       refine qa (v := .string ⟨#[40]⟩) (hy := fun E Wx hSw => by (go_simp; try rw [signs_x.2.2.1]; exact ⟨rfl, hSw⟩)) (h := ?_)
       refine qd (.tuple #[]) [boxR t (.cells #[.pointer (some ⟨h, 0, none⟩), .string ⟨List.toArray T1.out⟩, .string T1.fell.name, .int .i64 0, .int .i64 0, .string ⟨#[]⟩, .bool false] 149)] (h1 := fun Wx hSw => by (go_simp; refine symCall ?_; have hh := rsay_ok (T := (⟨out, .no⟩ : TelM)) hSw ⟨#[40]⟩ LO.out (by decide); rw [show TelM.say (⟨out, .no⟩ : TelM) (ByteArray.data ⟨#[40]⟩).toList = T1 from XT1.out] at hh; exact hh)) (h2 := ?_)
       refine doneL (h := fun w12 S => ?_)
       replace S := Lib.hid S
       obtain ⟨bT, hnb⟩ : ∃ l, l = [boxR t (.cells #[.pointer (some ⟨h, 0, none⟩), .string ⟨List.toArray T1.out⟩, .string T1.fell.name, .int .i64 0, .int .i64 0, .string ⟨#[]⟩, .bool false] 149)] ++ bA := ⟨_, rfl⟩
       have HBbT := Lib.hid hnb
       replace S : Sep w ([] ++ bT) w12 := by
        rw [hnb]
        refine S.out.perm ?_
        exact (show ([boxR t (.cells #[.pointer (some ⟨h, 0, none⟩), .string ⟨List.toArray T1.out⟩, .string T1.fell.name, .int .i64 0, .int .i64 0, .string ⟨#[]⟩, .bool false] 149)] ++ bA).Perm ([] ++ ([boxR t (.cells #[.pointer (some ⟨h, 0, none⟩), .string ⟨List.toArray T1.out⟩, .string T1.fell.name, .int .i64 0, .int .i64 0, .string ⟨#[]⟩, .bool false] 149)] ++ bA)) from by rw [← List.append_assoc]; exact List.Perm.append_right bA (by exact perm_of [0] (by show (List.range' 0 1).Perm [0]; decide) (by rfl)))
       clear hnb
       replace S := Lib.hid S
       have C0_bT := liftC HBbT C0
       have Ct_bT : Hid (∀ W (Q : List Res), Sep w (Q ++ bT) W → W.cell? ⟨t, 0, none⟩ = some (.pointer (some ⟨h, 0, none⟩)) ∧ W.cell? ⟨t, 1, none⟩ = some (.string ⟨List.toArray T1.out⟩) ∧ W.cell? ⟨t, 2, none⟩ = some (.string T1.fell.name) ∧ W.cell? ⟨t, 3, none⟩ = some (.int .i64 0) ∧ W.cell? ⟨t, 4, none⟩ = some (.int .i64 0) ∧ W.cell? ⟨t, 5, none⟩ = some (.string ⟨#[]⟩) ∧ W.cell? ⟨t, 6, none⟩ = some (.bool false)) := Lib.hid fun W Q T => by
        rw [HBbT.out] at T
        have i0 := T.box (b := t) (o := .cells #[.pointer (some ⟨h, 0, none⟩), .string ⟨List.toArray T1.out⟩, .string T1.fell.name, .int .i64 0, .int .i64 0, .string ⟨#[]⟩, .bool false] 149) (Q.length + 0) (atR rfl)
        exact ⟨cellAt i0 0 rfl, cellAt i0 1 rfl, cellAt i0 2 rfl, cellAt i0 3 rfl, cellAt i0 4 rfl, cellAt i0 5 rfl, cellAt i0 6 rfl⟩
       have KI : Hid (∀ W (Q : List Res), Sep w (Q ++ bT) W → Calls Tryz.prog 61 #[.pointer (some ⟨h, 0, none⟩), .agg #[.int .i64 v.kind, .int .i64 v.n, .string v.s]] W fun e W' => ∃ a c, e = .returned (.slice a XS.length c) ∧ Sep w (valsR (.slice a XS.length c) XS :: (Q ++ bT)) W') := Lib.hid fun W Q T => by
        rw [HBbT.out, HBS.out] at T ⊢
        exact ritems_at T (Q.length + 2 + i) (by rw [List.getElem?_append_right (by omega), show Q.length + 2 + i - Q.length = i + 2 by omega]; simpa using HI.out) G hN v XS HXS.out
       go_upto_region 13 with fail
       refine regionP 5 2 (E := [emptyR]) (base := bT) (Sep.putE S.out) ?_
       clear S
       iterate 3 refine qp ?_
       refine qp (hy := fun E Wx hSw => by ((obtain ⟨u0, u1, u2, u3, u4, u5, u6⟩ := Ct_bT.out _ _ hSw); go_simp; exact ⟨rfl, hSw⟩)) (h := ?_)
       refine qpc C0_bT ?_
       refine endP ?_
       refine readyS [5] ?_
       refine stepS (fun v E1 => ∃ (a_13_1 : Option Addr) (c_13_1 : Nat), v = .slice a_13_1 XS.length c_13_1 ∧ E1 = [valsR (.slice a_13_1 XS.length c_13_1) XS]) (h1 := fun Wx hSw => by (go_simp; refine symCallN ?_; have hh := KI.out _ _ hSw; refine hh.mono ?_; rintro e W' ⟨a, c, e1, e2⟩; refine ⟨_, _, e1, ⟨a, c, rfl, rfl⟩, ?_⟩; exact e2.into 0 rfl)) (h2 := fun v E1 hvE => ?_) (hs := nilS)
       obtain ⟨a_13_1, c_13_1, rfl, rfl⟩ := hvE; simp only [Act.put, pa]; try dsimp only [List.set]
       refine qs 6 ?_
       refine doneS (h := fun w13 S => ?_)
       replace S := Lib.hid S
       clear KI
       replace S : Hid (Sep w ([valsR (.slice a_13_1 XS.length c_13_1) XS, boxR t (.cells #[.pointer (some ⟨h, 0, none⟩), .string ⟨List.toArray T1.out⟩, .string T1.fell.name, .int .i64 0, .int .i64 0, .string ⟨#[]⟩, .bool false] 149)] ++ bA) w13) := Lib.hid (by have h_ := S.out; rw [HBbT.out] at h_; exact h_)
       clear C0_bT Ct_bT
       have hkl : (XS.length : Int) ≤ 9223372036854775807 := by obtain ⟨_, _, e0, p1, p2, _⟩ := (S.out.row 0 rfl).sees'; cases e0; unfold maxLen at p2; omega
       obtain ⟨bK, hnb⟩ : ∃ l, l = [valsR (.slice a_13_1 XS.length c_13_1) XS] ++ bA := ⟨_, rfl⟩
       have HBbK := Lib.hid hnb
       replace S : Sep w ([boxR t (.cells #[.pointer (some ⟨h, 0, none⟩), .string ⟨List.toArray T1.out⟩, .string T1.fell.name, .int .i64 0, .int .i64 0, .string ⟨#[]⟩, .bool false] 149)] ++ bK) w13 := by
        rw [hnb]
        refine S.out.perm ?_
        exact (show ([valsR (.slice a_13_1 XS.length c_13_1) XS, boxR t (.cells #[.pointer (some ⟨h, 0, none⟩), .string ⟨List.toArray T1.out⟩, .string T1.fell.name, .int .i64 0, .int .i64 0, .string ⟨#[]⟩, .bool false] 149)] ++ bA).Perm ([boxR t (.cells #[.pointer (some ⟨h, 0, none⟩), .string ⟨List.toArray T1.out⟩, .string T1.fell.name, .int .i64 0, .int .i64 0, .string ⟨#[]⟩, .bool false] 149)] ++ ([valsR (.slice a_13_1 XS.length c_13_1) XS] ++ bA)) from by rw [← List.append_assoc]; exact List.Perm.append_right bA (by exact perm_of [1, 0] (by show (List.range' 0 2).Perm [1, 0]; decide) (by rfl)))
       clear hnb
       replace S := Lib.hid S
       have C0_bK := liftC HBbK C0
       have HIK : Hid (bK[i + 2]? = some (refR h H)) := Lib.hid (by rw [HBbK.out]; simpa using HIA.out)
       go_wp2
       go_loopw [9] (fun s9 wr => ∃ (k : Nat) (ou : List UInt8) (fe : Fell), Hid (k ≤ XS.length ∧ ou.length ≤ 65536 ∧ partsF (decide (k = 0)) (PS.drop k) ⟨ou, fe⟩ = TE) ∧ s9 = .int .i64 k ∧ Sep w ([boxR t (.cells #[.pointer (some ⟨h, 0, none⟩), .string ⟨List.toArray ou⟩, .string fe.name, .int .i64 0, .int .i64 0, .string ⟨#[]⟩, .bool false] 149)] ++ bK) wr) (fun s9 _ => XS.length - (intOf s9).toNat)
       case atStart =>
        exact ⟨0, T1.out, T1.fell, Lib.hid ⟨Nat.zero_le _, LT1.out, by have h := HTE.out; rw [XT1.out] at h; exact h⟩, rfl, S.out⟩
       case round =>
        clear S
        obtain ⟨k, ou, fe, HK, rfl, S⟩ := hrel
        replace S := Lib.hid S
        obtain ⟨gb, hgb⟩ : ∃ b, (decide (k < XS.length) && decide (fe = .no)) = b := ⟨_, rfl⟩
        have HGB := Lib.hid hgb
        clear hgb
        go_upto_region 15 with fail
        go_cut [72] (fun s72 wx => s72 = .bool gb ∧ Sep w ([boxR t (.cells #[.pointer (some ⟨h, 0, none⟩), .string ⟨List.toArray ou⟩, .string fe.name, .int .i64 0, .int .i64 0, .string ⟨#[]⟩, .bool false] 149)] ++ bK) wx)
        case first =>
         cases fe with
         | memory =>
          replace S : Hid (Sep w ([boxR t (.cells #[.pointer (some ⟨h, 0, none⟩), .string ⟨List.toArray ou⟩, .string memoryError, .int .i64 0, .int .i64 0, .string ⟨#[]⟩, .bool false] 149)] ++ bK) wr) := S
          by_cases hlt : k < XS.length
          ·
           have hlti : (k : Int) < XS.length := by omega
           obtain rfl : gb = false := by rw [← HGB.out]; simp
           clear hlt
           refine regionL (E := [boxR t (.cells #[.pointer (some ⟨h, 0, none⟩), .string ⟨List.toArray ou⟩, .string memoryError, .int .i64 0, .int .i64 0, .string ⟨#[]⟩, .bool false] 149)]) (base := bK) S.out ?_
           clear S
           iterate 8 refine qa ?_
           refine qd _ [boxR t (.cells #[.pointer (some ⟨h, 0, none⟩), .string ⟨List.toArray ou⟩, .string memoryError, .int .i64 0, .int .i64 0, .string ⟨#[]⟩, .bool false] 149)] (h1 := fun Wx hSw => by (have hz := hSw.box (b := t) (o := .cells #[.pointer (some ⟨h, 0, none⟩), .string ⟨List.toArray ou⟩, .string memoryError, .int .i64 0, .int .i64 0, .string ⟨#[]⟩, .bool false] 149) 0 rfl; have z0 := cellAt hz 0 (v := .pointer (some ⟨h, 0, none⟩)) rfl; have z1 := cellAt hz 1 (v := .string ⟨List.toArray ou⟩) rfl; have z2 := cellAt hz 2 (v := .string memoryError) rfl; have z3 := cellAt hz 3 (v := .int .i64 0) rfl; have z4 := cellAt hz 4 (v := .int .i64 0) rfl; have z5 := cellAt hz 5 (v := .string ⟨#[]⟩) rfl; have z6 := cellAt hz 6 (v := .bool false) rfl; go_simp; exact ⟨rfl, hSw⟩)) (h2 := ?_)
           iterate 3 refine qa ?_
           refine doneL (h := fun w14 S => ?_)
           replace S := Lib.hid S
           go_wp2_with fail
           go_meet
           exact ⟨rfl, S.out⟩
          ·
           have hlti : ¬ (k : Int) < XS.length := by omega
           obtain rfl : gb = false := by rw [← HGB.out]; simp
           clear hlt
           refine regionL (E := [boxR t (.cells #[.pointer (some ⟨h, 0, none⟩), .string ⟨List.toArray ou⟩, .string memoryError, .int .i64 0, .int .i64 0, .string ⟨#[]⟩, .bool false] 149)]) (base := bK) S.out ?_
           clear S
           iterate 5 refine qa ?_
           iterate 6 refine qz ?_
           refine qa ?_
           refine doneL (h := fun w15 S => ?_)
           replace S := Lib.hid S
           go_wp2_with fail
           go_meet
           exact ⟨rfl, S.out⟩
         | deep =>
          replace S : Hid (Sep w ([boxR t (.cells #[.pointer (some ⟨h, 0, none⟩), .string ⟨List.toArray ou⟩, .string recursionError, .int .i64 0, .int .i64 0, .string ⟨#[]⟩, .bool false] 149)] ++ bK) wr) := S
          by_cases hlt : k < XS.length
          ·
           have hlti : (k : Int) < XS.length := by omega
           obtain rfl : gb = false := by rw [← HGB.out]; simp
           clear hlt
           refine regionL (E := [boxR t (.cells #[.pointer (some ⟨h, 0, none⟩), .string ⟨List.toArray ou⟩, .string recursionError, .int .i64 0, .int .i64 0, .string ⟨#[]⟩, .bool false] 149)]) (base := bK) S.out ?_
           clear S
           iterate 8 refine qa ?_
           refine qd _ [boxR t (.cells #[.pointer (some ⟨h, 0, none⟩), .string ⟨List.toArray ou⟩, .string recursionError, .int .i64 0, .int .i64 0, .string ⟨#[]⟩, .bool false] 149)] (h1 := fun Wx hSw => by (have hz := hSw.box (b := t) (o := .cells #[.pointer (some ⟨h, 0, none⟩), .string ⟨List.toArray ou⟩, .string recursionError, .int .i64 0, .int .i64 0, .string ⟨#[]⟩, .bool false] 149) 0 rfl; have z0 := cellAt hz 0 (v := .pointer (some ⟨h, 0, none⟩)) rfl; have z1 := cellAt hz 1 (v := .string ⟨List.toArray ou⟩) rfl; have z2 := cellAt hz 2 (v := .string recursionError) rfl; have z3 := cellAt hz 3 (v := .int .i64 0) rfl; have z4 := cellAt hz 4 (v := .int .i64 0) rfl; have z5 := cellAt hz 5 (v := .string ⟨#[]⟩) rfl; have z6 := cellAt hz 6 (v := .bool false) rfl; go_simp; exact ⟨rfl, hSw⟩)) (h2 := ?_)
           iterate 3 refine qa ?_
           refine doneL (h := fun w16 S => ?_)
           replace S := Lib.hid S
           go_wp2_with fail
           go_meet
           exact ⟨rfl, S.out⟩
          ·
           have hlti : ¬ (k : Int) < XS.length := by omega
           obtain rfl : gb = false := by rw [← HGB.out]; simp
           clear hlt
           refine regionL (E := [boxR t (.cells #[.pointer (some ⟨h, 0, none⟩), .string ⟨List.toArray ou⟩, .string recursionError, .int .i64 0, .int .i64 0, .string ⟨#[]⟩, .bool false] 149)]) (base := bK) S.out ?_
           clear S
           iterate 5 refine qa ?_
           iterate 6 refine qz ?_
           refine qa ?_
           refine doneL (h := fun w17 S => ?_)
           replace S := Lib.hid S
           go_wp2_with fail
           go_meet
           exact ⟨rfl, S.out⟩
         | no =>
          replace S : Hid (Sep w ([boxR t (.cells #[.pointer (some ⟨h, 0, none⟩), .string ⟨List.toArray ou⟩, .string ⟨#[]⟩, .int .i64 0, .int .i64 0, .string ⟨#[]⟩, .bool false] 149)] ++ bK) wr) := S
          by_cases hlt : k < XS.length
          ·
           have hlti : (k : Int) < XS.length := by omega
           obtain rfl : gb = true := by rw [← HGB.out]; simp [hlt]
           clear hlt
           refine regionL (E := [boxR t (.cells #[.pointer (some ⟨h, 0, none⟩), .string ⟨List.toArray ou⟩, .string ⟨#[]⟩, .int .i64 0, .int .i64 0, .string ⟨#[]⟩, .bool false] 149)]) (base := bK) S.out ?_
           clear S
           iterate 8 refine qa ?_
           refine qd _ [boxR t (.cells #[.pointer (some ⟨h, 0, none⟩), .string ⟨List.toArray ou⟩, .string ⟨#[]⟩, .int .i64 0, .int .i64 0, .string ⟨#[]⟩, .bool false] 149)] (h1 := fun Wx hSw => by (have hz := hSw.box (b := t) (o := .cells #[.pointer (some ⟨h, 0, none⟩), .string ⟨List.toArray ou⟩, .string ⟨#[]⟩, .int .i64 0, .int .i64 0, .string ⟨#[]⟩, .bool false] 149) 0 rfl; have z0 := cellAt hz 0 (v := .pointer (some ⟨h, 0, none⟩)) rfl; have z1 := cellAt hz 1 (v := .string ⟨List.toArray ou⟩) rfl; have z2 := cellAt hz 2 (v := .string ⟨#[]⟩) rfl; have z3 := cellAt hz 3 (v := .int .i64 0) rfl; have z4 := cellAt hz 4 (v := .int .i64 0) rfl; have z5 := cellAt hz 5 (v := .string ⟨#[]⟩) rfl; have z6 := cellAt hz 6 (v := .bool false) rfl; go_simp; exact ⟨rfl, hSw⟩)) (h2 := ?_)
           iterate 3 refine qa ?_
           refine doneL (h := fun w18 S => ?_)
           replace S := Lib.hid S
           go_wp2_with fail
           go_meet
           exact ⟨rfl, S.out⟩
          ·
           have hlti : ¬ (k : Int) < XS.length := by omega
           obtain rfl : gb = false := by rw [← HGB.out]; simp [hlt]
           clear hlt
           refine regionL (E := [boxR t (.cells #[.pointer (some ⟨h, 0, none⟩), .string ⟨List.toArray ou⟩, .string ⟨#[]⟩, .int .i64 0, .int .i64 0, .string ⟨#[]⟩, .bool false] 149)]) (base := bK) S.out ?_
           clear S
           iterate 5 refine qa ?_
           iterate 6 refine qz ?_
           refine qa ?_
           refine doneL (h := fun w19 S => ?_)
           replace S := Lib.hid S
           go_wp2_with fail
           go_meet
           exact ⟨rfl, S.out⟩
        case rest =>
         obtain ⟨rfl, S⟩ := hcut
         replace S := Lib.hid S
         cases gb with
         | true =>
          have hg := HGB.out
          rw [Bool.and_eq_true, decide_eq_true_eq, decide_eq_true_eq] at hg
          obtain ⟨hlt, rfl⟩ := hg
          have hlti : (k : Int) < XS.length := by omega
          obtain ⟨key, hkey⟩ : ∃ z, XS[k]? = some z := ⟨XS[k], by simp [hlt]⟩
          have T_ := S.out
          rw [HBbK.out] at T_
          obtain ⟨g1, og, hag, -⟩ := ra_three (T_.row 1 rfl).sees' hkey
          clear T_
          subst hag
          obtain ⟨hp1, hpk⟩ := HAT.out k key hkey
          have HGO := Lib.hid (parts_go HK.out.2.2 hp1)
          obtain ⟨zb, hzb⟩ : ∃ b, decide (0 < k) = b := ⟨_, rfl⟩
          obtain ⟨T2, hT2⟩ : ∃ x, (if k = 0 then (⟨ou, .no⟩ : TelM) else TelM.say ⟨ou, .no⟩ [44, 32]) = x := ⟨_, rfl⟩
          have LP : Hid ((⟨ou, .no⟩ : TelM).out.length ≤ 65536) := Lib.hid HK.out.2.1
          have LT2 : Hid (T2.out.length ≤ 65536) := Lib.hid (by rw [← hT2]; split; exact LP.out; exact TelM.out_le LP.out _)
          obtain ⟨T3, hT3⟩ : ∃ x, H.tellG g key T2 = x := ⟨_, rfl⟩
          have LT3 : Hid (T3.out.length ≤ 65536) := Lib.hid (by rw [← hT3]; exact HeapM.tellG_le g _ LT2.out)
          have HKEY := Lib.hid hkey
          have HPK_ := Lib.hid hpk
          have HZB := Lib.hid hzb
          have XT2 := Lib.hid hT2
          have XT3 := Lib.hid hT3
          have HLT := Lib.hid hlt
          clear hkey hp1 hpk hzb hT2 hT3 hlt
          replace S : Hid (Sep w ([boxR t (.cells #[.pointer (some ⟨h, 0, none⟩), .string ⟨List.toArray ou⟩, .string ⟨#[]⟩, .int .i64 0, .int .i64 0, .string ⟨#[]⟩, .bool false] 149)] ++ bK) wc) := S
          have CR : Hid (∀ W (Q : List Res), Sep w (Q ++ bK) W → W.cell? ⟨g1, og + k * 3, none⟩ = some (.int .i64 key.kind) ∧ W.cell? ⟨g1, og + k * 3 + 1, none⟩ = some (.int .i64 key.n) ∧ W.cell? ⟨g1, og + k * 3 + 2, none⟩ = some (.string key.s)) := Lib.hid fun W Q T => by
           rw [HBbK.out] at T
           exact raThree T (Q.length + 0) (atR rfl) HKEY.out
          go_upto_region 17 with fail
          refine regionL (E := [boxR t (.cells #[.pointer (some ⟨h, 0, none⟩), .string ⟨List.toArray ou⟩, .string ⟨#[]⟩, .int .i64 0, .int .i64 0, .string ⟨#[]⟩, .bool false] 149)]) (base := bK) S.out ?_
          clear S
          refine qa ?_
          refine qa (v := .bool zb) (hy := fun E Wx hSw => by (go_simp; try rw [HZB.out]; exact ⟨rfl, hSw⟩)) (h := ?_)
          refine doneL (h := fun w20 S => ?_)
          replace S := Lib.hid S
          go_upto_if 76 with fail
          go_cut [] (fun wx => Sep w ([boxR t (.cells #[.pointer (some ⟨h, 0, none⟩), .string ⟨List.toArray T2.out⟩, .string T2.fell.name, .int .i64 0, .int .i64 0, .string ⟨#[]⟩, .bool false] 149)] ++ bK) wx)
          case first =>
           cases zb with
           | false =>
            obtain rfl : (⟨ou, .no⟩ : TelM) = T2 := by rw [← XT2.out, if_pos (by have := of_decide_eq_false HZB.out; omega)]
            go_wp2_with fail; go_meet; exact S.out
           | true =>
            obtain ⟨T9, hT9⟩ : ∃ x, TelM.say (⟨ou, .no⟩ : TelM) [44, 32] = x := ⟨_, rfl⟩
            have XT9 := Lib.hid hT9
            have LT9 : Hid ((T9).out.length ≤ 65536) := Lib.hid (by rw [← hT9]; exact TelM.out_le LP.out _)
            clear hT9
            obtain rfl : T9 = T2 := by rw [← XT2.out, ← XT9.out, if_neg (by have := of_decide_eq_true HZB.out; omega)]
            go_upto_region 18 with fail
            refine regionL (E := [boxR t (.cells #[.pointer (some ⟨h, 0, none⟩), .string ⟨List.toArray ou⟩, .string ⟨#[]⟩, .int .i64 0, .int .i64 0, .string ⟨#[]⟩, .bool false] 149)]) (base := bK) S.out ?_
            clear S
            refine qa ?_
            refine qd (.tuple #[]) [boxR t (.cells #[.pointer (some ⟨h, 0, none⟩), .string ⟨List.toArray T9.out⟩, .string T9.fell.name, .int .i64 0, .int .i64 0, .string ⟨#[]⟩, .bool false] 149)] (h1 := fun Wx hSw => by (go_simp; refine symCall ?_; have hh := rsay_ok (T := (⟨ou, .no⟩ : TelM)) hSw ⟨#[44, 32]⟩ LP.out (by decide); rw [show TelM.say (⟨ou, .no⟩ : TelM) (ByteArray.data ⟨#[44, 32]⟩).toList = T9 from XT9.out] at hh; exact hh)) (h2 := ?_)
            refine doneL (h := fun w21 S => ?_)
            replace S := Lib.hid S
            go_wp2_with fail; go_meet; exact S.out
          case rest =>
           replace S := Lib.hid hcut
           go_upto_region 19 with fail
           refine regionL (E := [boxR t (.cells #[.pointer (some ⟨h, 0, none⟩), .string ⟨List.toArray T2.out⟩, .string T2.fell.name, .int .i64 0, .int .i64 0, .string ⟨#[]⟩, .bool false] 149)]) (base := bK) S.out ?_
           clear S
           iterate 4 refine qa ?_
           refine qc CR ?_
           iterate 2 refine qa ?_
           refine qd (.tuple #[]) [boxR t (.cells #[.pointer (some ⟨h, 0, none⟩), .string ⟨List.toArray T3.out⟩, .string T3.fell.name, .int .i64 0, .int .i64 0, .string ⟨#[]⟩, .bool false] 149)] (h1 := fun Wx hSw => by (go_simp; refine symCall ?_; have hh := IHG.out _ _ T2 hSw (i + 2) HIK.out LT2.out key HPK_.out (d + 1) HDG.out (by have := HD.out.2; omega); rw [XT3.out] at hh; exact hh)) (h2 := ?_)
           refine doneL (h := fun w22 S => ?_)
           replace S := Lib.hid S
           have hgo := HGO.out
           rw [XT2.out] at hgo
           simp only [XT3.out] at hgo
           have HGO2 := Lib.hid hgo
           clear hgo
           have hi1 : IntKind.i64.wrap ((k : Int) + 1) = (k : Int) + 1 := IntWalk.i64_in _ (by have := HLT.out; omega)
           go_wp2
           exact ⟨⟨k + 1, T3.out, T3.fell, Lib.hid ⟨HLT.out, LT3.out, HGO2.out⟩, by go_num, S.out⟩, by have := HLT.out; simp [intOf]; omega⟩
         | false =>
          have hte : (⟨ou, fe⟩ : TelM) = TE := parts_stop HPS.out HK.out.2.2 (by
           have hg := HGB.out; rw [Bool.and_eq_false_iff, decide_eq_false_iff_not, decide_eq_false_iff_not] at hg
           rcases hg with hg | hg; exact .inl (by have := HLEN.out; omega); exact .inr hg)
          subst hte
          obtain ⟨lb, hlb⟩ : ∃ b, decide (XS.length = 1) = b := ⟨_, rfl⟩
          have hlb2 : ((XS.length : Int) == 1) = lb := by rw [← hlb]; by_cases h : XS.length = 1 <;> simp [h]; omega
          have HLB := Lib.hid hlb
          have HLB2 := Lib.hid hlb2
          clear hlb hlb2
          go_upto_region 20 with fail
          refine regionL (E := [boxR t (.cells #[.pointer (some ⟨h, 0, none⟩), .string ⟨List.toArray ou⟩, .string fe.name, .int .i64 0, .int .i64 0, .string ⟨#[]⟩, .bool false] 149)]) (base := bK) S.out ?_
          clear S
          iterate 5 refine qa ?_
          refine qa (v := .bool lb) (hy := fun E Wx hSw => by (go_simp; try rw [HLB2.out]; exact ⟨rfl, hSw⟩)) (h := ?_)
          refine qa ?_
          refine doneL (h := fun w23 S => ?_)
          replace S := Lib.hid S
          cases lb with
          | true =>
           have E9 : Hid (H.tellG (g + 1) v ⟨out, .no⟩ = (TelM.say (⟨ou, fe⟩ : TelM) [44]).say [41]) := Lib.hid (by rw [HRES.out, if_neg (by decide), if_pos (of_decide_eq_true HLB.out), HTE.out])
           obtain ⟨T5, hT5⟩ : ∃ x, TelM.say (⟨ou, fe⟩ : TelM) [44] = x := ⟨_, rfl⟩
           have XT5 := Lib.hid hT5
           have LT5 : Hid ((T5).out.length ≤ 65536) := Lib.hid (by rw [← hT5]; exact TelM.out_le LTE.out _)
           clear hT5
           go_upto_region 21 with fail
           refine regionL (E := [boxR t (.cells #[.pointer (some ⟨h, 0, none⟩), .string ⟨List.toArray ou⟩, .string fe.name, .int .i64 0, .int .i64 0, .string ⟨#[]⟩, .bool false] 149)]) (base := bK) S.out ?_
           clear S
           refine qa ?_
           refine qd (.tuple #[]) [boxR t (.cells #[.pointer (some ⟨h, 0, none⟩), .string ⟨List.toArray T5.out⟩, .string T5.fell.name, .int .i64 0, .int .i64 0, .string ⟨#[]⟩, .bool false] 149)] (h1 := fun Wx hSw => by (go_simp; refine symCall ?_; have hh := rsay_ok (T := (⟨ou, fe⟩ : TelM)) hSw ⟨#[44]⟩ LTE.out (by decide); rw [show TelM.say (⟨ou, fe⟩ : TelM) (ByteArray.data ⟨#[44]⟩).toList = T5 from XT5.out] at hh; exact hh)) (h2 := ?_)
           refine doneL (h := fun w24 S => ?_)
           replace S := Lib.hid S
           replace E9 : Hid (H.tellG (g + 1) v ⟨out, .no⟩ = T5.say [41]) := Lib.hid (by rw [E9.out, XT5.out])
           obtain ⟨T6, hT6⟩ : ∃ x, TelM.say T5 [41] = x := ⟨_, rfl⟩
           have XT6 := Lib.hid hT6
           have LT6 : Hid ((T6).out.length ≤ 65536) := Lib.hid (by rw [← hT6]; exact TelM.out_le LT5.out _)
           clear hT6
           go_upto_region 22 with fail
           refine regionL (E := [boxR t (.cells #[.pointer (some ⟨h, 0, none⟩), .string ⟨List.toArray T5.out⟩, .string T5.fell.name, .int .i64 0, .int .i64 0, .string ⟨#[]⟩, .bool false] 149)]) (base := bK) S.out ?_
           clear S
           iterate 2 refine qa ?_
           refine qa (v := .string ⟨#[41]⟩) (hy := fun E Wx hSw => by (go_simp; try rw [signs_x.2.2.2]; exact ⟨rfl, hSw⟩)) (h := ?_)
           refine qd (.tuple #[]) [boxR t (.cells #[.pointer (some ⟨h, 0, none⟩), .string ⟨List.toArray T6.out⟩, .string T6.fell.name, .int .i64 0, .int .i64 0, .string ⟨#[]⟩, .bool false] 149)] (h1 := fun Wx hSw => by (go_simp; refine symCall ?_; have hh := rsay_ok (T := T5) hSw ⟨#[41]⟩ LT5.out (by decide); rw [show TelM.say T5 (ByteArray.data ⟨#[41]⟩).toList = T6 from XT6.out] at hh; exact hh)) (h2 := ?_)
           refine doneL (h := fun w25 S => ?_)
           replace S := Lib.hid S
           go_wp2_with fail
           first | go_end0 | go_returns
           rw [E9.out, XT6.out]
           replace S := S.out
           rw [HBbK.out, HBS.out] at S
           exact ⟨rfl, S.sub (.cons_cons _ (.cons _ (.cons _ (List.Sublist.refl _))))⟩
          | false =>
           have E9 : Hid (H.tellG (g + 1) v ⟨out, .no⟩ = TelM.say (⟨ou, fe⟩ : TelM) [41]) := Lib.hid (by rw [HRES.out, if_neg (by decide), if_neg (of_decide_eq_false HLB.out), HTE.out])
           obtain ⟨T6, hT6⟩ : ∃ x, TelM.say (⟨ou, fe⟩ : TelM) [41] = x := ⟨_, rfl⟩
           have XT6 := Lib.hid hT6
           have LT6 : Hid ((T6).out.length ≤ 65536) := Lib.hid (by rw [← hT6]; exact TelM.out_le LTE.out _)
           clear hT6
           go_upto_region 22 with fail
           refine regionL (E := [boxR t (.cells #[.pointer (some ⟨h, 0, none⟩), .string ⟨List.toArray ou⟩, .string fe.name, .int .i64 0, .int .i64 0, .string ⟨#[]⟩, .bool false] 149)]) (base := bK) S.out ?_
           clear S
           iterate 2 refine qa ?_
           refine qa (v := .string ⟨#[41]⟩) (hy := fun E Wx hSw => by (go_simp; try rw [signs_x.2.2.2]; exact ⟨rfl, hSw⟩)) (h := ?_)
           refine qd (.tuple #[]) [boxR t (.cells #[.pointer (some ⟨h, 0, none⟩), .string ⟨List.toArray T6.out⟩, .string T6.fell.name, .int .i64 0, .int .i64 0, .string ⟨#[]⟩, .bool false] 149)] (h1 := fun Wx hSw => by (go_simp; refine symCall ?_; have hh := rsay_ok (T := (⟨ou, fe⟩ : TelM)) hSw ⟨#[41]⟩ LTE.out (by decide); rw [show TelM.say (⟨ou, fe⟩ : TelM) (ByteArray.data ⟨#[41]⟩).toList = T6 from XT6.out] at hh; exact hh)) (h2 := ?_)
           refine doneL (h := fun w26 S => ?_)
           replace S := Lib.hid S
           go_wp2_with fail
           first | go_end0 | go_returns
           rw [E9.out, XT6.out]
           replace S := S.out
           rw [HBbK.out, HBS.out] at S
           exact ⟨rfl, S.sub (.cons_cons _ (.cons _ (.cons _ (List.Sublist.refl _))))⟩
      ·
       obtain rfl : kx = 1 := by rcases hk12 with e | e; exact e; exact absurd e k2
       clear k3 hk12 k2
       obtain ⟨TE, hTE⟩ : ∃ x, partsF true PS (TelM.say ⟨out, .no⟩ [91]) = x := ⟨_, rfl⟩
       have HTE := Lib.hid hTE
       have LTE : Hid (TE.out.length ≤ 65536) := Lib.hid (by rw [← hTE]; exact HLE.out _ (TelM.out_le LO.out _))
       clear hTE
       obtain ⟨T1, hT1⟩ : ∃ x, TelM.say (⟨out, .no⟩ : TelM) [91] = x := ⟨_, rfl⟩
       have XT1 := Lib.hid hT1
       have LT1 : Hid ((T1).out.length ≤ 65536) := Lib.hid (by rw [← hT1]; exact TelM.out_le LO.out _)
       clear hT1
       go_upto_region 12 with fail
       refine regionL (E := [boxR t (.cells #[.pointer (some ⟨h, 0, none⟩), .string ⟨List.toArray out⟩, .string ⟨#[]⟩, .int .i64 0, .int .i64 0, .string ⟨#[]⟩, .bool false] 149)]) (base := bA) S.out ?_
       clear S
       iterate 2 refine qa ?_
       refine qa (v := .string ⟨#[91]⟩) (hy := fun E Wx hSw => by (go_simp; try rw [signs_x.1]; exact ⟨rfl, hSw⟩)) (h := ?_)
       refine qd (.tuple #[]) [boxR t (.cells #[.pointer (some ⟨h, 0, none⟩), .string ⟨List.toArray T1.out⟩, .string T1.fell.name, .int .i64 0, .int .i64 0, .string ⟨#[]⟩, .bool false] 149)] (h1 := fun Wx hSw => by (go_simp; refine symCall ?_; have hh := rsay_ok (T := (⟨out, .no⟩ : TelM)) hSw ⟨#[91]⟩ LO.out (by decide); rw [show TelM.say (⟨out, .no⟩ : TelM) (ByteArray.data ⟨#[91]⟩).toList = T1 from XT1.out] at hh; exact hh)) (h2 := ?_)
       refine doneL (h := fun w27 S => ?_)
       replace S := Lib.hid S
       obtain ⟨bT, hnb⟩ : ∃ l, l = [boxR t (.cells #[.pointer (some ⟨h, 0, none⟩), .string ⟨List.toArray T1.out⟩, .string T1.fell.name, .int .i64 0, .int .i64 0, .string ⟨#[]⟩, .bool false] 149)] ++ bA := ⟨_, rfl⟩
       have HBbT := Lib.hid hnb
       replace S : Sep w ([] ++ bT) w27 := by
        rw [hnb]
        refine S.out.perm ?_
        exact (show ([boxR t (.cells #[.pointer (some ⟨h, 0, none⟩), .string ⟨List.toArray T1.out⟩, .string T1.fell.name, .int .i64 0, .int .i64 0, .string ⟨#[]⟩, .bool false] 149)] ++ bA).Perm ([] ++ ([boxR t (.cells #[.pointer (some ⟨h, 0, none⟩), .string ⟨List.toArray T1.out⟩, .string T1.fell.name, .int .i64 0, .int .i64 0, .string ⟨#[]⟩, .bool false] 149)] ++ bA)) from by rw [← List.append_assoc]; exact List.Perm.append_right bA (by exact perm_of [0] (by show (List.range' 0 1).Perm [0]; decide) (by rfl)))
       clear hnb
       replace S := Lib.hid S
       have C0_bT := liftC HBbT C0
       have Ct_bT : Hid (∀ W (Q : List Res), Sep w (Q ++ bT) W → W.cell? ⟨t, 0, none⟩ = some (.pointer (some ⟨h, 0, none⟩)) ∧ W.cell? ⟨t, 1, none⟩ = some (.string ⟨List.toArray T1.out⟩) ∧ W.cell? ⟨t, 2, none⟩ = some (.string T1.fell.name) ∧ W.cell? ⟨t, 3, none⟩ = some (.int .i64 0) ∧ W.cell? ⟨t, 4, none⟩ = some (.int .i64 0) ∧ W.cell? ⟨t, 5, none⟩ = some (.string ⟨#[]⟩) ∧ W.cell? ⟨t, 6, none⟩ = some (.bool false)) := Lib.hid fun W Q T => by
        rw [HBbT.out] at T
        have i0 := T.box (b := t) (o := .cells #[.pointer (some ⟨h, 0, none⟩), .string ⟨List.toArray T1.out⟩, .string T1.fell.name, .int .i64 0, .int .i64 0, .string ⟨#[]⟩, .bool false] 149) (Q.length + 0) (atR rfl)
        exact ⟨cellAt i0 0 rfl, cellAt i0 1 rfl, cellAt i0 2 rfl, cellAt i0 3 rfl, cellAt i0 4 rfl, cellAt i0 5 rfl, cellAt i0 6 rfl⟩
       have KI : Hid (∀ W (Q : List Res), Sep w (Q ++ bT) W → Calls Tryz.prog 61 #[.pointer (some ⟨h, 0, none⟩), .agg #[.int .i64 v.kind, .int .i64 v.n, .string v.s]] W fun e W' => ∃ a c, e = .returned (.slice a XS.length c) ∧ Sep w (valsR (.slice a XS.length c) XS :: (Q ++ bT)) W') := Lib.hid fun W Q T => by
        rw [HBbT.out, HBS.out] at T ⊢
        exact ritems_at T (Q.length + 2 + i) (by rw [List.getElem?_append_right (by omega), show Q.length + 2 + i - Q.length = i + 2 by omega]; simpa using HI.out) G hN v XS HXS.out
       go_upto_region 13 with fail
       refine regionP 5 2 (E := [emptyR]) (base := bT) (Sep.putE S.out) ?_
       clear S
       iterate 3 refine qp ?_
       refine qp (hy := fun E Wx hSw => by ((obtain ⟨u0, u1, u2, u3, u4, u5, u6⟩ := Ct_bT.out _ _ hSw); go_simp; exact ⟨rfl, hSw⟩)) (h := ?_)
       refine qpc C0_bT ?_
       refine endP ?_
       refine readyS [5] ?_
       refine stepS (fun v E1 => ∃ (a_28_1 : Option Addr) (c_28_1 : Nat), v = .slice a_28_1 XS.length c_28_1 ∧ E1 = [valsR (.slice a_28_1 XS.length c_28_1) XS]) (h1 := fun Wx hSw => by (go_simp; refine symCallN ?_; have hh := KI.out _ _ hSw; refine hh.mono ?_; rintro e W' ⟨a, c, e1, e2⟩; refine ⟨_, _, e1, ⟨a, c, rfl, rfl⟩, ?_⟩; exact e2.into 0 rfl)) (h2 := fun v E1 hvE => ?_) (hs := nilS)
       obtain ⟨a_28_1, c_28_1, rfl, rfl⟩ := hvE; simp only [Act.put, pa]; try dsimp only [List.set]
       refine qs 6 ?_
       refine doneS (h := fun w28 S => ?_)
       replace S := Lib.hid S
       clear KI
       replace S : Hid (Sep w ([valsR (.slice a_28_1 XS.length c_28_1) XS, boxR t (.cells #[.pointer (some ⟨h, 0, none⟩), .string ⟨List.toArray T1.out⟩, .string T1.fell.name, .int .i64 0, .int .i64 0, .string ⟨#[]⟩, .bool false] 149)] ++ bA) w28) := Lib.hid (by have h_ := S.out; rw [HBbT.out] at h_; exact h_)
       clear C0_bT Ct_bT
       have hkl : (XS.length : Int) ≤ 9223372036854775807 := by obtain ⟨_, _, e0, p1, p2, _⟩ := (S.out.row 0 rfl).sees'; cases e0; unfold maxLen at p2; omega
       obtain ⟨bK, hnb⟩ : ∃ l, l = [valsR (.slice a_28_1 XS.length c_28_1) XS] ++ bA := ⟨_, rfl⟩
       have HBbK := Lib.hid hnb
       replace S : Sep w ([boxR t (.cells #[.pointer (some ⟨h, 0, none⟩), .string ⟨List.toArray T1.out⟩, .string T1.fell.name, .int .i64 0, .int .i64 0, .string ⟨#[]⟩, .bool false] 149)] ++ bK) w28 := by
        rw [hnb]
        refine S.out.perm ?_
        exact (show ([valsR (.slice a_28_1 XS.length c_28_1) XS, boxR t (.cells #[.pointer (some ⟨h, 0, none⟩), .string ⟨List.toArray T1.out⟩, .string T1.fell.name, .int .i64 0, .int .i64 0, .string ⟨#[]⟩, .bool false] 149)] ++ bA).Perm ([boxR t (.cells #[.pointer (some ⟨h, 0, none⟩), .string ⟨List.toArray T1.out⟩, .string T1.fell.name, .int .i64 0, .int .i64 0, .string ⟨#[]⟩, .bool false] 149)] ++ ([valsR (.slice a_28_1 XS.length c_28_1) XS] ++ bA)) from by rw [← List.append_assoc]; exact List.Perm.append_right bA (by exact perm_of [1, 0] (by show (List.range' 0 2).Perm [1, 0]; decide) (by rfl)))
       clear hnb
       replace S := Lib.hid S
       have C0_bK := liftC HBbK C0
       have HIK : Hid (bK[i + 2]? = some (refR h H)) := Lib.hid (by rw [HBbK.out]; simpa using HIA.out)
       go_wp2
       go_loopw [9] (fun s9 wr => ∃ (k : Nat) (ou : List UInt8) (fe : Fell), Hid (k ≤ XS.length ∧ ou.length ≤ 65536 ∧ partsF (decide (k = 0)) (PS.drop k) ⟨ou, fe⟩ = TE) ∧ s9 = .int .i64 k ∧ Sep w ([boxR t (.cells #[.pointer (some ⟨h, 0, none⟩), .string ⟨List.toArray ou⟩, .string fe.name, .int .i64 0, .int .i64 0, .string ⟨#[]⟩, .bool false] 149)] ++ bK) wr) (fun s9 _ => XS.length - (intOf s9).toNat)
       case atStart =>
        exact ⟨0, T1.out, T1.fell, Lib.hid ⟨Nat.zero_le _, LT1.out, by have h := HTE.out; rw [XT1.out] at h; exact h⟩, rfl, S.out⟩
       case round =>
        clear S
        obtain ⟨k, ou, fe, HK, rfl, S⟩ := hrel
        replace S := Lib.hid S
        obtain ⟨gb, hgb⟩ : ∃ b, (decide (k < XS.length) && decide (fe = .no)) = b := ⟨_, rfl⟩
        have HGB := Lib.hid hgb
        clear hgb
        go_upto_region 15 with fail
        go_cut [72] (fun s72 wx => s72 = .bool gb ∧ Sep w ([boxR t (.cells #[.pointer (some ⟨h, 0, none⟩), .string ⟨List.toArray ou⟩, .string fe.name, .int .i64 0, .int .i64 0, .string ⟨#[]⟩, .bool false] 149)] ++ bK) wx)
        case first =>
         cases fe with
         | memory =>
          replace S : Hid (Sep w ([boxR t (.cells #[.pointer (some ⟨h, 0, none⟩), .string ⟨List.toArray ou⟩, .string memoryError, .int .i64 0, .int .i64 0, .string ⟨#[]⟩, .bool false] 149)] ++ bK) wr) := S
          by_cases hlt : k < XS.length
          ·
           have hlti : (k : Int) < XS.length := by omega
           obtain rfl : gb = false := by rw [← HGB.out]; simp
           clear hlt
           refine regionL (E := [boxR t (.cells #[.pointer (some ⟨h, 0, none⟩), .string ⟨List.toArray ou⟩, .string memoryError, .int .i64 0, .int .i64 0, .string ⟨#[]⟩, .bool false] 149)]) (base := bK) S.out ?_
           clear S
           iterate 8 refine qa ?_
           refine qd _ [boxR t (.cells #[.pointer (some ⟨h, 0, none⟩), .string ⟨List.toArray ou⟩, .string memoryError, .int .i64 0, .int .i64 0, .string ⟨#[]⟩, .bool false] 149)] (h1 := fun Wx hSw => by (have hz := hSw.box (b := t) (o := .cells #[.pointer (some ⟨h, 0, none⟩), .string ⟨List.toArray ou⟩, .string memoryError, .int .i64 0, .int .i64 0, .string ⟨#[]⟩, .bool false] 149) 0 rfl; have z0 := cellAt hz 0 (v := .pointer (some ⟨h, 0, none⟩)) rfl; have z1 := cellAt hz 1 (v := .string ⟨List.toArray ou⟩) rfl; have z2 := cellAt hz 2 (v := .string memoryError) rfl; have z3 := cellAt hz 3 (v := .int .i64 0) rfl; have z4 := cellAt hz 4 (v := .int .i64 0) rfl; have z5 := cellAt hz 5 (v := .string ⟨#[]⟩) rfl; have z6 := cellAt hz 6 (v := .bool false) rfl; go_simp; exact ⟨rfl, hSw⟩)) (h2 := ?_)
           iterate 3 refine qa ?_
           refine doneL (h := fun w29 S => ?_)
           replace S := Lib.hid S
           go_wp2_with fail
           go_meet
           exact ⟨rfl, S.out⟩
          ·
           have hlti : ¬ (k : Int) < XS.length := by omega
           obtain rfl : gb = false := by rw [← HGB.out]; simp
           clear hlt
           refine regionL (E := [boxR t (.cells #[.pointer (some ⟨h, 0, none⟩), .string ⟨List.toArray ou⟩, .string memoryError, .int .i64 0, .int .i64 0, .string ⟨#[]⟩, .bool false] 149)]) (base := bK) S.out ?_
           clear S
           iterate 5 refine qa ?_
           iterate 6 refine qz ?_
           refine qa ?_
           refine doneL (h := fun w30 S => ?_)
           replace S := Lib.hid S
           go_wp2_with fail
           go_meet
           exact ⟨rfl, S.out⟩
         | deep =>
          replace S : Hid (Sep w ([boxR t (.cells #[.pointer (some ⟨h, 0, none⟩), .string ⟨List.toArray ou⟩, .string recursionError, .int .i64 0, .int .i64 0, .string ⟨#[]⟩, .bool false] 149)] ++ bK) wr) := S
          by_cases hlt : k < XS.length
          ·
           have hlti : (k : Int) < XS.length := by omega
           obtain rfl : gb = false := by rw [← HGB.out]; simp
           clear hlt
           refine regionL (E := [boxR t (.cells #[.pointer (some ⟨h, 0, none⟩), .string ⟨List.toArray ou⟩, .string recursionError, .int .i64 0, .int .i64 0, .string ⟨#[]⟩, .bool false] 149)]) (base := bK) S.out ?_
           clear S
           iterate 8 refine qa ?_
           refine qd _ [boxR t (.cells #[.pointer (some ⟨h, 0, none⟩), .string ⟨List.toArray ou⟩, .string recursionError, .int .i64 0, .int .i64 0, .string ⟨#[]⟩, .bool false] 149)] (h1 := fun Wx hSw => by (have hz := hSw.box (b := t) (o := .cells #[.pointer (some ⟨h, 0, none⟩), .string ⟨List.toArray ou⟩, .string recursionError, .int .i64 0, .int .i64 0, .string ⟨#[]⟩, .bool false] 149) 0 rfl; have z0 := cellAt hz 0 (v := .pointer (some ⟨h, 0, none⟩)) rfl; have z1 := cellAt hz 1 (v := .string ⟨List.toArray ou⟩) rfl; have z2 := cellAt hz 2 (v := .string recursionError) rfl; have z3 := cellAt hz 3 (v := .int .i64 0) rfl; have z4 := cellAt hz 4 (v := .int .i64 0) rfl; have z5 := cellAt hz 5 (v := .string ⟨#[]⟩) rfl; have z6 := cellAt hz 6 (v := .bool false) rfl; go_simp; exact ⟨rfl, hSw⟩)) (h2 := ?_)
           iterate 3 refine qa ?_
           refine doneL (h := fun w31 S => ?_)
           replace S := Lib.hid S
           go_wp2_with fail
           go_meet
           exact ⟨rfl, S.out⟩
          ·
           have hlti : ¬ (k : Int) < XS.length := by omega
           obtain rfl : gb = false := by rw [← HGB.out]; simp
           clear hlt
           refine regionL (E := [boxR t (.cells #[.pointer (some ⟨h, 0, none⟩), .string ⟨List.toArray ou⟩, .string recursionError, .int .i64 0, .int .i64 0, .string ⟨#[]⟩, .bool false] 149)]) (base := bK) S.out ?_
           clear S
           iterate 5 refine qa ?_
           iterate 6 refine qz ?_
           refine qa ?_
           refine doneL (h := fun w32 S => ?_)
           replace S := Lib.hid S
           go_wp2_with fail
           go_meet
           exact ⟨rfl, S.out⟩
         | no =>
          replace S : Hid (Sep w ([boxR t (.cells #[.pointer (some ⟨h, 0, none⟩), .string ⟨List.toArray ou⟩, .string ⟨#[]⟩, .int .i64 0, .int .i64 0, .string ⟨#[]⟩, .bool false] 149)] ++ bK) wr) := S
          by_cases hlt : k < XS.length
          ·
           have hlti : (k : Int) < XS.length := by omega
           obtain rfl : gb = true := by rw [← HGB.out]; simp [hlt]
           clear hlt
           refine regionL (E := [boxR t (.cells #[.pointer (some ⟨h, 0, none⟩), .string ⟨List.toArray ou⟩, .string ⟨#[]⟩, .int .i64 0, .int .i64 0, .string ⟨#[]⟩, .bool false] 149)]) (base := bK) S.out ?_
           clear S
           iterate 8 refine qa ?_
           refine qd _ [boxR t (.cells #[.pointer (some ⟨h, 0, none⟩), .string ⟨List.toArray ou⟩, .string ⟨#[]⟩, .int .i64 0, .int .i64 0, .string ⟨#[]⟩, .bool false] 149)] (h1 := fun Wx hSw => by (have hz := hSw.box (b := t) (o := .cells #[.pointer (some ⟨h, 0, none⟩), .string ⟨List.toArray ou⟩, .string ⟨#[]⟩, .int .i64 0, .int .i64 0, .string ⟨#[]⟩, .bool false] 149) 0 rfl; have z0 := cellAt hz 0 (v := .pointer (some ⟨h, 0, none⟩)) rfl; have z1 := cellAt hz 1 (v := .string ⟨List.toArray ou⟩) rfl; have z2 := cellAt hz 2 (v := .string ⟨#[]⟩) rfl; have z3 := cellAt hz 3 (v := .int .i64 0) rfl; have z4 := cellAt hz 4 (v := .int .i64 0) rfl; have z5 := cellAt hz 5 (v := .string ⟨#[]⟩) rfl; have z6 := cellAt hz 6 (v := .bool false) rfl; go_simp; exact ⟨rfl, hSw⟩)) (h2 := ?_)
           iterate 3 refine qa ?_
           refine doneL (h := fun w33 S => ?_)
           replace S := Lib.hid S
           go_wp2_with fail
           go_meet
           exact ⟨rfl, S.out⟩
          ·
           have hlti : ¬ (k : Int) < XS.length := by omega
           obtain rfl : gb = false := by rw [← HGB.out]; simp [hlt]
           clear hlt
           refine regionL (E := [boxR t (.cells #[.pointer (some ⟨h, 0, none⟩), .string ⟨List.toArray ou⟩, .string ⟨#[]⟩, .int .i64 0, .int .i64 0, .string ⟨#[]⟩, .bool false] 149)]) (base := bK) S.out ?_
           clear S
           iterate 5 refine qa ?_
           iterate 6 refine qz ?_
           refine qa ?_
           refine doneL (h := fun w34 S => ?_)
           replace S := Lib.hid S
           go_wp2_with fail
           go_meet
           exact ⟨rfl, S.out⟩
        case rest =>
         obtain ⟨rfl, S⟩ := hcut
         replace S := Lib.hid S
         cases gb with
         | true =>
          have hg := HGB.out
          rw [Bool.and_eq_true, decide_eq_true_eq, decide_eq_true_eq] at hg
          obtain ⟨hlt, rfl⟩ := hg
          have hlti : (k : Int) < XS.length := by omega
          obtain ⟨key, hkey⟩ : ∃ z, XS[k]? = some z := ⟨XS[k], by simp [hlt]⟩
          have T_ := S.out
          rw [HBbK.out] at T_
          obtain ⟨g1, og, hag, -⟩ := ra_three (T_.row 1 rfl).sees' hkey
          clear T_
          subst hag
          obtain ⟨hp1, hpk⟩ := HAT.out k key hkey
          have HGO := Lib.hid (parts_go HK.out.2.2 hp1)
          obtain ⟨zb, hzb⟩ : ∃ b, decide (0 < k) = b := ⟨_, rfl⟩
          obtain ⟨T2, hT2⟩ : ∃ x, (if k = 0 then (⟨ou, .no⟩ : TelM) else TelM.say ⟨ou, .no⟩ [44, 32]) = x := ⟨_, rfl⟩
          have LP : Hid ((⟨ou, .no⟩ : TelM).out.length ≤ 65536) := Lib.hid HK.out.2.1
          have LT2 : Hid (T2.out.length ≤ 65536) := Lib.hid (by rw [← hT2]; split; exact LP.out; exact TelM.out_le LP.out _)
          obtain ⟨T3, hT3⟩ : ∃ x, H.tellG g key T2 = x := ⟨_, rfl⟩
          have LT3 : Hid (T3.out.length ≤ 65536) := Lib.hid (by rw [← hT3]; exact HeapM.tellG_le g _ LT2.out)
          have HKEY := Lib.hid hkey
          have HPK_ := Lib.hid hpk
          have HZB := Lib.hid hzb
          have XT2 := Lib.hid hT2
          have XT3 := Lib.hid hT3
          have HLT := Lib.hid hlt
          clear hkey hp1 hpk hzb hT2 hT3 hlt
          replace S : Hid (Sep w ([boxR t (.cells #[.pointer (some ⟨h, 0, none⟩), .string ⟨List.toArray ou⟩, .string ⟨#[]⟩, .int .i64 0, .int .i64 0, .string ⟨#[]⟩, .bool false] 149)] ++ bK) wc) := S
          have CR : Hid (∀ W (Q : List Res), Sep w (Q ++ bK) W → W.cell? ⟨g1, og + k * 3, none⟩ = some (.int .i64 key.kind) ∧ W.cell? ⟨g1, og + k * 3 + 1, none⟩ = some (.int .i64 key.n) ∧ W.cell? ⟨g1, og + k * 3 + 2, none⟩ = some (.string key.s)) := Lib.hid fun W Q T => by
           rw [HBbK.out] at T
           exact raThree T (Q.length + 0) (atR rfl) HKEY.out
          go_upto_region 17 with fail
          refine regionL (E := [boxR t (.cells #[.pointer (some ⟨h, 0, none⟩), .string ⟨List.toArray ou⟩, .string ⟨#[]⟩, .int .i64 0, .int .i64 0, .string ⟨#[]⟩, .bool false] 149)]) (base := bK) S.out ?_
          clear S
          refine qa ?_
          refine qa (v := .bool zb) (hy := fun E Wx hSw => by (go_simp; try rw [HZB.out]; exact ⟨rfl, hSw⟩)) (h := ?_)
          refine doneL (h := fun w35 S => ?_)
          replace S := Lib.hid S
          go_upto_if 76 with fail
          go_cut [] (fun wx => Sep w ([boxR t (.cells #[.pointer (some ⟨h, 0, none⟩), .string ⟨List.toArray T2.out⟩, .string T2.fell.name, .int .i64 0, .int .i64 0, .string ⟨#[]⟩, .bool false] 149)] ++ bK) wx)
          case first =>
           cases zb with
           | false =>
            obtain rfl : (⟨ou, .no⟩ : TelM) = T2 := by rw [← XT2.out, if_pos (by have := of_decide_eq_false HZB.out; omega)]
            go_wp2_with fail; go_meet; exact S.out
           | true =>
            obtain ⟨T9, hT9⟩ : ∃ x, TelM.say (⟨ou, .no⟩ : TelM) [44, 32] = x := ⟨_, rfl⟩
            have XT9 := Lib.hid hT9
            have LT9 : Hid ((T9).out.length ≤ 65536) := Lib.hid (by rw [← hT9]; exact TelM.out_le LP.out _)
            clear hT9
            obtain rfl : T9 = T2 := by rw [← XT2.out, ← XT9.out, if_neg (by have := of_decide_eq_true HZB.out; omega)]
            go_upto_region 18 with fail
            refine regionL (E := [boxR t (.cells #[.pointer (some ⟨h, 0, none⟩), .string ⟨List.toArray ou⟩, .string ⟨#[]⟩, .int .i64 0, .int .i64 0, .string ⟨#[]⟩, .bool false] 149)]) (base := bK) S.out ?_
            clear S
            refine qa ?_
            refine qd (.tuple #[]) [boxR t (.cells #[.pointer (some ⟨h, 0, none⟩), .string ⟨List.toArray T9.out⟩, .string T9.fell.name, .int .i64 0, .int .i64 0, .string ⟨#[]⟩, .bool false] 149)] (h1 := fun Wx hSw => by (go_simp; refine symCall ?_; have hh := rsay_ok (T := (⟨ou, .no⟩ : TelM)) hSw ⟨#[44, 32]⟩ LP.out (by decide); rw [show TelM.say (⟨ou, .no⟩ : TelM) (ByteArray.data ⟨#[44, 32]⟩).toList = T9 from XT9.out] at hh; exact hh)) (h2 := ?_)
            refine doneL (h := fun w36 S => ?_)
            replace S := Lib.hid S
            go_wp2_with fail; go_meet; exact S.out
          case rest =>
           replace S := Lib.hid hcut
           go_upto_region 19 with fail
           refine regionL (E := [boxR t (.cells #[.pointer (some ⟨h, 0, none⟩), .string ⟨List.toArray T2.out⟩, .string T2.fell.name, .int .i64 0, .int .i64 0, .string ⟨#[]⟩, .bool false] 149)]) (base := bK) S.out ?_
           clear S
           iterate 4 refine qa ?_
           refine qc CR ?_
           iterate 2 refine qa ?_
           refine qd (.tuple #[]) [boxR t (.cells #[.pointer (some ⟨h, 0, none⟩), .string ⟨List.toArray T3.out⟩, .string T3.fell.name, .int .i64 0, .int .i64 0, .string ⟨#[]⟩, .bool false] 149)] (h1 := fun Wx hSw => by (go_simp; refine symCall ?_; have hh := IHG.out _ _ T2 hSw (i + 2) HIK.out LT2.out key HPK_.out (d + 1) HDG.out (by have := HD.out.2; omega); rw [XT3.out] at hh; exact hh)) (h2 := ?_)
           refine doneL (h := fun w37 S => ?_)
           replace S := Lib.hid S
           have hgo := HGO.out
           rw [XT2.out] at hgo
           simp only [XT3.out] at hgo
           have HGO2 := Lib.hid hgo
           clear hgo
           have hi1 : IntKind.i64.wrap ((k : Int) + 1) = (k : Int) + 1 := IntWalk.i64_in _ (by have := HLT.out; omega)
           go_wp2
           exact ⟨⟨k + 1, T3.out, T3.fell, Lib.hid ⟨HLT.out, LT3.out, HGO2.out⟩, by go_num, S.out⟩, by have := HLT.out; simp [intOf]; omega⟩
         | false =>
          have hte : (⟨ou, fe⟩ : TelM) = TE := parts_stop HPS.out HK.out.2.2 (by
           have hg := HGB.out; rw [Bool.and_eq_false_iff, decide_eq_false_iff_not, decide_eq_false_iff_not] at hg
           rcases hg with hg | hg; exact .inl (by have := HLEN.out; omega); exact .inr hg)
          subst hte
          go_upto_region 20 with fail
          refine regionL (E := [boxR t (.cells #[.pointer (some ⟨h, 0, none⟩), .string ⟨List.toArray ou⟩, .string fe.name, .int .i64 0, .int .i64 0, .string ⟨#[]⟩, .bool false] 149)]) (base := bK) S.out ?_
          clear S
          iterate 3 refine qa ?_
          iterate 3 refine qz ?_
          refine qa ?_
          refine doneL (h := fun w38 S => ?_)
          replace S := Lib.hid S
          have E9 : Hid (H.tellG (g + 1) v ⟨out, .no⟩ = TelM.say (⟨ou, fe⟩ : TelM) [93]) := Lib.hid (by have h_ := HRES.out; rw [if_pos (by trivial)] at h_; rw [h_, HTE.out])
          have E8 := E9
          obtain ⟨T6, hT6⟩ : ∃ x, TelM.say (⟨ou, fe⟩ : TelM) [93] = x := ⟨_, rfl⟩
          have XT6 := Lib.hid hT6
          have LT6 : Hid ((T6).out.length ≤ 65536) := Lib.hid (by rw [← hT6]; exact TelM.out_le LTE.out _)
          clear hT6
          go_upto_region 22 with fail
          refine regionL (E := [boxR t (.cells #[.pointer (some ⟨h, 0, none⟩), .string ⟨List.toArray ou⟩, .string fe.name, .int .i64 0, .int .i64 0, .string ⟨#[]⟩, .bool false] 149)]) (base := bK) S.out ?_
          clear S
          iterate 2 refine qa ?_
          refine qa (v := .string ⟨#[93]⟩) (hy := fun E Wx hSw => by (go_simp; try rw [signs_x.2.1]; exact ⟨rfl, hSw⟩)) (h := ?_)
          refine qd (.tuple #[]) [boxR t (.cells #[.pointer (some ⟨h, 0, none⟩), .string ⟨List.toArray T6.out⟩, .string T6.fell.name, .int .i64 0, .int .i64 0, .string ⟨#[]⟩, .bool false] 149)] (h1 := fun Wx hSw => by (go_simp; refine symCall ?_; have hh := rsay_ok (T := (⟨ou, fe⟩ : TelM)) hSw ⟨#[93]⟩ LTE.out (by decide); rw [show TelM.say (⟨ou, fe⟩ : TelM) (ByteArray.data ⟨#[93]⟩).toList = T6 from XT6.out] at hh; exact hh)) (h2 := ?_)
          refine doneL (h := fun w39 S => ?_)
          replace S := Lib.hid S
          go_wp2_with fail
          first | go_end0 | go_returns
          rw [E9.out, XT6.out]
          replace S := S.out
          rw [HBbK.out, HBS.out] at S
          exact ⟨rfl, S.sub (.cons_cons _ (.cons _ (.cons _ (List.Sublist.refl _))))⟩
end
end Go.Proofs.YtijlebhoapdfnaaGreat
