/- ch 16: the reference's teller: rows, dicts. -/
import Derived.Test.YtijlebhoapdfnaaGreatRTelB
import Derived.Test.YtijlebhoapdfnaaGreatRTelG
set_option maxRecDepth 100000
set_option maxHeartbeats 12800000
namespace Go.Proofs.YtijlebhoapdfnaaGreat
set_option linter.unusedSimpArgs false
open Go.RowKit
set_option linter.unusedVariables false
attribute [local irreducible] wpSeqS wpAnyS wpPreS
def TellR (w : World) (t h : Nat) (H : HeapM) (P : V → Prop) (f : Nat) : Prop := ∀ (Rs : List Res) (W : World) (T : TelM), Sep w (tlR t h T :: Rs) W → ∀ (i : Nat), Rs[i]? = some (refR h H) → T.out.length ≤ 65536 → ∀ (v : V), P v → ∀ (d : Int), d + f = 30 → 0 ≤ d →
 Calls Tryz.prog 126 #[.pointer (some ⟨t, 0, none⟩), .agg #[.int .i64 v.kind, .int .i64 v.n, .string v.s], .int .i64 d] W fun e W' => e = .returned (.tuple #[]) ∧ Sep w (tlR t h (H.tellG f v T) :: Rs) W'
section
variable {w W : World} {Rs : List Res} {t h : Nat} {H : HeapM} {T : TelM} {P : V → Prop}
theorem rdict_ok {N : Nat} (G : H.Good N) (hN : N ≤ 4000000) {f : Nat} (IH : TellR w t h H P f) (S : Sep w (tlR t h T :: Rs) W) (i : Nat) (hi : Rs[i]? = some (refR h H)) (hT : T.out.length ≤ 65536) (v : V) (PK : ∀ p ∈ H.pairs v, P p.1 ∧ P ((H.get v p.1).getD V.zero)) (d : Int) (hd : d + 1 + f = 30) (hd0 : 0 ≤ d) : Calls Tryz.prog 172 #[.pointer (some ⟨t, 0, none⟩), .agg #[.int .i64 v.kind, .int .i64 v.n, .string v.s], .int .i64 d] W fun e W' => e = .returned (.tuple #[]) ∧ Sep w (tlR t h (rowF [123] [125] ((H.pairs v).map fun p => fun t => H.tellG f ((H.get v p.1).getD V.zero) ((H.tellG f p.1 t).say [58, 32])) T) :: Rs) W' := by
 obtain ⟨KS, hKS⟩ : ∃ KS, (H.pairs v).map (·.1) = KS := ⟨_, rfl⟩
 obtain ⟨PS, hPS⟩ : ∃ PS, ((H.pairs v).map fun p => fun t => H.tellG f ((H.get v p.1).getD V.zero) ((H.tellG f p.1 t).say [58, 32])) = PS := ⟨_, rfl⟩
 obtain ⟨TE, hTE⟩ : ∃ x, partsF true PS (T.say [123]) = x := ⟨_, rfl⟩
 have hres : rowF [123] [125] PS T = TE.say [125] := by unfold rowF; rw [hTE]
 have hlen : PS.length = KS.length := by rw [← hPS, ← hKS, List.length_map, List.length_map]
 have hps : ∀ p ∈ PS, ∀ t : TelM, t.fell ≠ .no → p t = t := fun p hp t ht => by
  rw [← hPS] at hp; obtain ⟨x, -, rfl⟩ := List.mem_map.1 hp
  show H.tellG f _ ((H.tellG f x.1 t).say [58, 32]) = t
  rw [HeapM.tellG_fell ht, TelM.say_fell ht, HeapM.tellG_fell ht]
 have hat : ∀ (k : Nat) (key : V), KS[k]? = some key → PS[k]? = some (fun t => H.tellG f ((H.get v key).getD V.zero) ((H.tellG f key t).say [58, 32])) ∧ P key ∧ P ((H.get v key).getD V.zero) := fun k key hk => by
  rw [← hKS, List.getElem?_map] at hk
  cases e : (H.pairs v)[k]? with
  | none => rw [e] at hk; simp at hk
  | some p =>
   rw [e] at hk; simp at hk; subst hk
   refine ⟨by rw [← hPS, List.getElem?_map, e]; rfl, PK p (List.mem_of_getElem? e)⟩
 rw [hPS, hres]
 have HKS := Lib.hid hKS
 have HPS := Lib.hid hps
 have HAT := Lib.hid hat
 have HLEN := Lib.hid hlen
 have HTE := Lib.hid hTE
 have LT := Lib.hid hT
 have HIH := Lib.hid IH
 have HI := Lib.hid hi
 have LTE : Hid (TE.out.length ≤ 65536) := Lib.hid (by
  rw [← hTE]; refine partsF_le _ _ (TelM.out_le hT _) fun p hp t ht => ?_
  rw [← hPS] at hp; obtain ⟨x, -, rfl⟩ := List.mem_map.1 hp
  exact HeapM.tellG_le f _ (TelM.out_le (HeapM.tellG_le f _ ht) _))
 have hwr : IntKind.i64.wrap (d + 1) = d + 1 := IntWalk.i64_in _ (by omega)
 have HD := Lib.hid (And.intro hd hd0)
 clear hKS hPS hTE hres hlen hps hat hT IH PK hd hd0
 obtain ⟨b, hb⟩ : ∃ gx_, (W.heap.size) = gx_ := ⟨_, rfl⟩
 replace S := (S.alloc (.cells #[.int .i64 v.kind, .int .i64 v.n, .string v.s] 24))
 simp only [World.size_alloc, hb] at S
 obtain ⟨bA, hbs⟩ : ∃ l, l = boxV b v :: Rs := ⟨_, rfl⟩
 have HBS := Lib.hid hbs
 replace S : Sep w ([boxR t (.cells #[.pointer (some ⟨h, 0, none⟩), .string ⟨List.toArray T.out⟩, .string T.fell.name, .int .i64 0, .int .i64 0, .string ⟨#[]⟩, .bool false] 149)] ++ bA) (W.alloc (.cells #[.int .i64 v.kind, .int .i64 v.n, .string v.s] 24)) := by rw [hbs]; exact S.swap
 have C0 := baseC3 (w := w) (b := b) hbs 0 rfl
 clear hbs
 replace S := Lib.hid S
 go_enter Tryz.func172, Tryz.ntmps172
 go_upto_region 1 with fail
 try simp only [World.size_alloc, hb]
 clear hb
 obtain ⟨T1, hT1⟩ : ∃ x, TelM.say T [123] = x := ⟨_, rfl⟩
 have XT1 := Lib.hid hT1
 have LT1 : Hid ((T1).out.length ≤ 65536) := Lib.hid (by rw [← hT1]; exact TelM.out_le LT.out _)
 clear hT1
 refine regionL (E := [boxR t (.cells #[.pointer (some ⟨h, 0, none⟩), .string ⟨List.toArray T.out⟩, .string T.fell.name, .int .i64 0, .int .i64 0, .string ⟨#[]⟩, .bool false] 149)]) (base := bA) S.out ?_
 clear S
 refine qa ?_
 refine qd (.tuple #[]) [boxR t (.cells #[.pointer (some ⟨h, 0, none⟩), .string ⟨List.toArray T1.out⟩, .string T1.fell.name, .int .i64 0, .int .i64 0, .string ⟨#[]⟩, .bool false] 149)] (h1 := fun Wx hSw => by (go_simp; refine symCall ?_; have hh := rsay_ok (T := T) hSw ⟨#[123]⟩ LT.out (by decide); rw [show TelM.say T (ByteArray.data ⟨#[123]⟩).toList = T1 from XT1.out] at hh; exact hh)) (h2 := ?_)
 refine doneL (h := fun w1 S => ?_)
 replace S := Lib.hid S
 obtain ⟨bT, hnb⟩ : ∃ l, l = [boxR t (.cells #[.pointer (some ⟨h, 0, none⟩), .string ⟨List.toArray T1.out⟩, .string T1.fell.name, .int .i64 0, .int .i64 0, .string ⟨#[]⟩, .bool false] 149)] ++ bA := ⟨_, rfl⟩
 have HBbT := Lib.hid hnb
 replace S : Sep w ([] ++ bT) w1 := by
  rw [hnb]
  refine S.out.perm ?_
  exact (show ([boxR t (.cells #[.pointer (some ⟨h, 0, none⟩), .string ⟨List.toArray T1.out⟩, .string T1.fell.name, .int .i64 0, .int .i64 0, .string ⟨#[]⟩, .bool false] 149)] ++ bA).Perm ([] ++ ([boxR t (.cells #[.pointer (some ⟨h, 0, none⟩), .string ⟨List.toArray T1.out⟩, .string T1.fell.name, .int .i64 0, .int .i64 0, .string ⟨#[]⟩, .bool false] 149)] ++ bA)) from by rw [← List.append_assoc]; exact List.Perm.append_right bA (by exact perm_of [0] (by show (List.range' 0 1).Perm [0]; decide) (by rfl)))
 clear hnb
 replace S := Lib.hid S
 have C0_bT := liftC HBbT C0
 have Ct_bT : Hid (∀ W (Q : List Res), Sep w (Q ++ bT) W → W.cell? ⟨t, 0, none⟩ = some (.pointer (some ⟨h, 0, none⟩)) ∧ W.cell? ⟨t, 1, none⟩ = some (.string ⟨List.toArray T1.out⟩) ∧ W.cell? ⟨t, 2, none⟩ = some (.string T1.fell.name) ∧ W.cell? ⟨t, 3, none⟩ = some (.int .i64 0) ∧ W.cell? ⟨t, 4, none⟩ = some (.int .i64 0) ∧ W.cell? ⟨t, 5, none⟩ = some (.string ⟨#[]⟩) ∧ W.cell? ⟨t, 6, none⟩ = some (.bool false)) := Lib.hid fun W Q T => by
  rw [HBbT.out] at T
  have i0 := T.box (b := t) (o := .cells #[.pointer (some ⟨h, 0, none⟩), .string ⟨List.toArray T1.out⟩, .string T1.fell.name, .int .i64 0, .int .i64 0, .string ⟨#[]⟩, .bool false] 149) (Q.length + 0) (atR rfl)
  exact ⟨cellAt i0 0 rfl, cellAt i0 1 rfl, cellAt i0 2 rfl, cellAt i0 3 rfl, cellAt i0 4 rfl, cellAt i0 5 rfl, cellAt i0 6 rfl⟩
 have KI : Hid (∀ W (Q : List Res), Sep w (Q ++ bT) W → Calls Tryz.prog 71 #[.pointer (some ⟨h, 0, none⟩), .agg #[.int .i64 v.kind, .int .i64 v.n, .string v.s]] W fun e W' => ∃ a c, e = .returned (.slice a KS.length c) ∧ Sep w (valsR (.slice a KS.length c) KS :: (Q ++ bT)) W') := Lib.hid fun W Q T => by
  rw [HBbT.out, HBS.out] at T ⊢
  exact rkeys_at T (Q.length + 2 + i) (by rw [List.getElem?_append_right (by omega), show Q.length + 2 + i - Q.length = i + 2 by omega]; simpa using HI.out) G hN v KS HKS.out
 go_upto_region 2 with fail
 refine regionP 5 2 (E := [emptyR]) (base := bT) (Sep.putE S.out) ?_
 clear S
 iterate 3 refine qp ?_
 refine qp (hy := fun E Wx hSw => by ((obtain ⟨u0, u1, u2, u3, u4, u5, u6⟩ := Ct_bT.out _ _ hSw); go_simp; exact ⟨rfl, hSw⟩)) (h := ?_)
 refine qpc C0_bT ?_
 refine endP ?_
 refine readyS [5] ?_
 refine stepS (fun v E1 => ∃ (a_2_1 : Option Addr) (c_2_1 : Nat), v = .slice a_2_1 KS.length c_2_1 ∧ E1 = [valsR (.slice a_2_1 KS.length c_2_1) KS]) (h1 := fun Wx hSw => by (go_simp; refine symCallN ?_; have hh := KI.out _ _ hSw; refine hh.mono ?_; rintro e W' ⟨a, c, e1, e2⟩; refine ⟨_, _, e1, ⟨a, c, rfl, rfl⟩, ?_⟩; exact e2.into 0 rfl)) (h2 := fun v E1 hvE => ?_) (hs := nilS)
 obtain ⟨a_2_1, c_2_1, rfl, rfl⟩ := hvE; simp only [Act.put, pa]; try dsimp only [List.set]
 refine qs 6 ?_
 refine doneS (h := fun w2 S => ?_)
 replace S := Lib.hid S
 clear KI
 replace S : Hid (Sep w ([valsR (.slice a_2_1 KS.length c_2_1) KS, boxR t (.cells #[.pointer (some ⟨h, 0, none⟩), .string ⟨List.toArray T1.out⟩, .string T1.fell.name, .int .i64 0, .int .i64 0, .string ⟨#[]⟩, .bool false] 149)] ++ bA) w2) := Lib.hid (by have h_ := S.out; rw [HBbT.out] at h_; exact h_)
 clear C0_bT Ct_bT
 have hkl : (KS.length : Int) ≤ 9223372036854775807 := by obtain ⟨_, _, e0, p1, p2, _⟩ := (S.out.row 0 rfl).sees'; cases e0; unfold maxLen at p2; omega
 obtain ⟨bK, hnb⟩ : ∃ l, l = [valsR (.slice a_2_1 KS.length c_2_1) KS] ++ bA := ⟨_, rfl⟩
 have HBbK := Lib.hid hnb
 replace S : Sep w ([boxR t (.cells #[.pointer (some ⟨h, 0, none⟩), .string ⟨List.toArray T1.out⟩, .string T1.fell.name, .int .i64 0, .int .i64 0, .string ⟨#[]⟩, .bool false] 149)] ++ bK) w2 := by
  rw [hnb]
  refine S.out.perm ?_
  exact (show ([valsR (.slice a_2_1 KS.length c_2_1) KS, boxR t (.cells #[.pointer (some ⟨h, 0, none⟩), .string ⟨List.toArray T1.out⟩, .string T1.fell.name, .int .i64 0, .int .i64 0, .string ⟨#[]⟩, .bool false] 149)] ++ bA).Perm ([boxR t (.cells #[.pointer (some ⟨h, 0, none⟩), .string ⟨List.toArray T1.out⟩, .string T1.fell.name, .int .i64 0, .int .i64 0, .string ⟨#[]⟩, .bool false] 149)] ++ ([valsR (.slice a_2_1 KS.length c_2_1) KS] ++ bA)) from by rw [← List.append_assoc]; exact List.Perm.append_right bA (by exact perm_of [1, 0] (by show (List.range' 0 2).Perm [1, 0]; decide) (by rfl)))
 clear hnb
 replace S := Lib.hid S
 have C0_bK := liftC HBbK C0
 have HIK : Hid (bK[i + 2]? = some (refR h H)) := Lib.hid (by rw [HBbK.out, HBS.out]; simpa using HI.out)
 go_wp2
 go_loopw [7] (fun s7 wr => ∃ (k : Nat) (out : List UInt8) (fell : Fell), Hid (k ≤ KS.length ∧ out.length ≤ 65536 ∧ partsF (decide (k = 0)) (PS.drop k) ⟨out, fell⟩ = TE) ∧ s7 = .int .i64 k ∧ Sep w ([boxR t (.cells #[.pointer (some ⟨h, 0, none⟩), .string ⟨List.toArray out⟩, .string fell.name, .int .i64 0, .int .i64 0, .string ⟨#[]⟩, .bool false] 149)] ++ bK) wr) (fun s7 _ => KS.length - (intOf s7).toNat)
 case atStart =>
  exact ⟨0, T1.out, T1.fell, Lib.hid ⟨Nat.zero_le _, LT1.out, by have h := HTE.out; rw [XT1.out] at h; exact h⟩, rfl, S.out⟩
 case round =>
  clear S
  obtain ⟨k, out, fell, HK, rfl, S⟩ := hrel
  replace S := Lib.hid S
  obtain ⟨gb, hgb⟩ : ∃ b, (decide (k < KS.length) && decide (fell = .no)) = b := ⟨_, rfl⟩
  have HGB := Lib.hid hgb
  clear hgb
  go_upto_region 4 with fail
  go_cut [29] (fun s29 wx => s29 = .bool gb ∧ Sep w ([boxR t (.cells #[.pointer (some ⟨h, 0, none⟩), .string ⟨List.toArray out⟩, .string fell.name, .int .i64 0, .int .i64 0, .string ⟨#[]⟩, .bool false] 149)] ++ bK) wx)
  case first =>
   cases fell with
   | memory =>
    replace S : Hid (Sep w ([boxR t (.cells #[.pointer (some ⟨h, 0, none⟩), .string ⟨List.toArray out⟩, .string memoryError, .int .i64 0, .int .i64 0, .string ⟨#[]⟩, .bool false] 149)] ++ bK) wr) := S
    by_cases hlt : k < KS.length
    ·
     have hlti : (k : Int) < KS.length := by omega
     obtain rfl : gb = false := by rw [← HGB.out]; simp
     clear hlt
     refine regionL (E := [boxR t (.cells #[.pointer (some ⟨h, 0, none⟩), .string ⟨List.toArray out⟩, .string memoryError, .int .i64 0, .int .i64 0, .string ⟨#[]⟩, .bool false] 149)]) (base := bK) S.out ?_
     clear S
     iterate 8 refine qa ?_
     refine qd _ [boxR t (.cells #[.pointer (some ⟨h, 0, none⟩), .string ⟨List.toArray out⟩, .string memoryError, .int .i64 0, .int .i64 0, .string ⟨#[]⟩, .bool false] 149)] (h1 := fun Wx hSw => by (have hz := hSw.box (b := t) (o := .cells #[.pointer (some ⟨h, 0, none⟩), .string ⟨List.toArray out⟩, .string memoryError, .int .i64 0, .int .i64 0, .string ⟨#[]⟩, .bool false] 149) 0 rfl; have z0 := cellAt hz 0 (v := .pointer (some ⟨h, 0, none⟩)) rfl; have z1 := cellAt hz 1 (v := .string ⟨List.toArray out⟩) rfl; have z2 := cellAt hz 2 (v := .string memoryError) rfl; have z3 := cellAt hz 3 (v := .int .i64 0) rfl; have z4 := cellAt hz 4 (v := .int .i64 0) rfl; have z5 := cellAt hz 5 (v := .string ⟨#[]⟩) rfl; have z6 := cellAt hz 6 (v := .bool false) rfl; go_simp; exact ⟨rfl, hSw⟩)) (h2 := ?_)
     iterate 3 refine qa ?_
     refine doneL (h := fun w3 S => ?_)
     replace S := Lib.hid S
     go_wp2_with fail
     go_meet
     exact ⟨rfl, S.out⟩
    ·
     have hlti : ¬ (k : Int) < KS.length := by omega
     obtain rfl : gb = false := by rw [← HGB.out]; simp
     clear hlt
     refine regionL (E := [boxR t (.cells #[.pointer (some ⟨h, 0, none⟩), .string ⟨List.toArray out⟩, .string memoryError, .int .i64 0, .int .i64 0, .string ⟨#[]⟩, .bool false] 149)]) (base := bK) S.out ?_
     clear S
     iterate 5 refine qa ?_
     iterate 6 refine qz ?_
     refine qa ?_
     refine doneL (h := fun w4 S => ?_)
     replace S := Lib.hid S
     go_wp2_with fail
     go_meet
     exact ⟨rfl, S.out⟩
   | deep =>
    replace S : Hid (Sep w ([boxR t (.cells #[.pointer (some ⟨h, 0, none⟩), .string ⟨List.toArray out⟩, .string recursionError, .int .i64 0, .int .i64 0, .string ⟨#[]⟩, .bool false] 149)] ++ bK) wr) := S
    by_cases hlt : k < KS.length
    ·
     have hlti : (k : Int) < KS.length := by omega
     obtain rfl : gb = false := by rw [← HGB.out]; simp
     clear hlt
     refine regionL (E := [boxR t (.cells #[.pointer (some ⟨h, 0, none⟩), .string ⟨List.toArray out⟩, .string recursionError, .int .i64 0, .int .i64 0, .string ⟨#[]⟩, .bool false] 149)]) (base := bK) S.out ?_
     clear S
     iterate 8 refine qa ?_
     refine qd _ [boxR t (.cells #[.pointer (some ⟨h, 0, none⟩), .string ⟨List.toArray out⟩, .string recursionError, .int .i64 0, .int .i64 0, .string ⟨#[]⟩, .bool false] 149)] (h1 := fun Wx hSw => by (have hz := hSw.box (b := t) (o := .cells #[.pointer (some ⟨h, 0, none⟩), .string ⟨List.toArray out⟩, .string recursionError, .int .i64 0, .int .i64 0, .string ⟨#[]⟩, .bool false] 149) 0 rfl; have z0 := cellAt hz 0 (v := .pointer (some ⟨h, 0, none⟩)) rfl; have z1 := cellAt hz 1 (v := .string ⟨List.toArray out⟩) rfl; have z2 := cellAt hz 2 (v := .string recursionError) rfl; have z3 := cellAt hz 3 (v := .int .i64 0) rfl; have z4 := cellAt hz 4 (v := .int .i64 0) rfl; have z5 := cellAt hz 5 (v := .string ⟨#[]⟩) rfl; have z6 := cellAt hz 6 (v := .bool false) rfl; go_simp; exact ⟨rfl, hSw⟩)) (h2 := ?_)
     iterate 3 refine qa ?_
     refine doneL (h := fun w5 S => ?_)
     replace S := Lib.hid S
     go_wp2_with fail
     go_meet
     exact ⟨rfl, S.out⟩
    ·
     have hlti : ¬ (k : Int) < KS.length := by omega
     obtain rfl : gb = false := by rw [← HGB.out]; simp
     clear hlt
     refine regionL (E := [boxR t (.cells #[.pointer (some ⟨h, 0, none⟩), .string ⟨List.toArray out⟩, .string recursionError, .int .i64 0, .int .i64 0, .string ⟨#[]⟩, .bool false] 149)]) (base := bK) S.out ?_
     clear S
     iterate 5 refine qa ?_
     iterate 6 refine qz ?_
     refine qa ?_
     refine doneL (h := fun w6 S => ?_)
     replace S := Lib.hid S
     go_wp2_with fail
     go_meet
     exact ⟨rfl, S.out⟩
   | no =>
    replace S : Hid (Sep w ([boxR t (.cells #[.pointer (some ⟨h, 0, none⟩), .string ⟨List.toArray out⟩, .string ⟨#[]⟩, .int .i64 0, .int .i64 0, .string ⟨#[]⟩, .bool false] 149)] ++ bK) wr) := S
    by_cases hlt : k < KS.length
    ·
     have hlti : (k : Int) < KS.length := by omega
     obtain rfl : gb = true := by rw [← HGB.out]; simp [hlt]
     clear hlt
     refine regionL (E := [boxR t (.cells #[.pointer (some ⟨h, 0, none⟩), .string ⟨List.toArray out⟩, .string ⟨#[]⟩, .int .i64 0, .int .i64 0, .string ⟨#[]⟩, .bool false] 149)]) (base := bK) S.out ?_
     clear S
     iterate 8 refine qa ?_
     refine qd _ [boxR t (.cells #[.pointer (some ⟨h, 0, none⟩), .string ⟨List.toArray out⟩, .string ⟨#[]⟩, .int .i64 0, .int .i64 0, .string ⟨#[]⟩, .bool false] 149)] (h1 := fun Wx hSw => by (have hz := hSw.box (b := t) (o := .cells #[.pointer (some ⟨h, 0, none⟩), .string ⟨List.toArray out⟩, .string ⟨#[]⟩, .int .i64 0, .int .i64 0, .string ⟨#[]⟩, .bool false] 149) 0 rfl; have z0 := cellAt hz 0 (v := .pointer (some ⟨h, 0, none⟩)) rfl; have z1 := cellAt hz 1 (v := .string ⟨List.toArray out⟩) rfl; have z2 := cellAt hz 2 (v := .string ⟨#[]⟩) rfl; have z3 := cellAt hz 3 (v := .int .i64 0) rfl; have z4 := cellAt hz 4 (v := .int .i64 0) rfl; have z5 := cellAt hz 5 (v := .string ⟨#[]⟩) rfl; have z6 := cellAt hz 6 (v := .bool false) rfl; go_simp; exact ⟨rfl, hSw⟩)) (h2 := ?_)
     iterate 3 refine qa ?_
     refine doneL (h := fun w7 S => ?_)
     replace S := Lib.hid S
     go_wp2_with fail
     go_meet
     exact ⟨rfl, S.out⟩
    ·
     have hlti : ¬ (k : Int) < KS.length := by omega
     obtain rfl : gb = false := by rw [← HGB.out]; simp [hlt]
     clear hlt
     refine regionL (E := [boxR t (.cells #[.pointer (some ⟨h, 0, none⟩), .string ⟨List.toArray out⟩, .string ⟨#[]⟩, .int .i64 0, .int .i64 0, .string ⟨#[]⟩, .bool false] 149)]) (base := bK) S.out ?_
     clear S
     iterate 5 refine qa ?_
     iterate 6 refine qz ?_
     refine qa ?_
     refine doneL (h := fun w8 S => ?_)
     replace S := Lib.hid S
     go_wp2_with fail
     go_meet
     exact ⟨rfl, S.out⟩
  case rest =>
   obtain ⟨rfl, S⟩ := hcut
   replace S := Lib.hid S
   cases gb with
   | true =>
    have hg := HGB.out
    rw [Bool.and_eq_true, decide_eq_true_eq, decide_eq_true_eq] at hg
    obtain ⟨hlt, rfl⟩ := hg
    have hlti : (k : Int) < KS.length := by omega
    obtain ⟨key, hkey⟩ : ∃ z, KS[k]? = some z := ⟨KS[k], by simp [hlt]⟩
    have T_ := S.out
    rw [HBbK.out] at T_
    obtain ⟨g1, og, hag, -⟩ := ra_three (T_.row 1 rfl).sees' hkey
    clear T_
    subst hag
    obtain ⟨hp1, hpk, hpx⟩ := HAT.out k key hkey
    obtain ⟨xv, hxv⟩ : ∃ v_, (H.get v key).getD V.zero = v_ := ⟨_, rfl⟩
    obtain ⟨xr, hxr⟩ : ∃ v_, (H.get v key).isSome = v_ := ⟨_, rfl⟩
    rw [hxv] at hp1 hpx
    have HGO := Lib.hid (parts_go HK.out.2.2 hp1)
    obtain ⟨zb, hzb⟩ : ∃ b, decide (0 < k) = b := ⟨_, rfl⟩
    obtain ⟨T2, hT2⟩ : ∃ x, (if k = 0 then (⟨out, .no⟩ : TelM) else TelM.say ⟨out, .no⟩ [44, 32]) = x := ⟨_, rfl⟩
    have LO : Hid ((⟨out, .no⟩ : TelM).out.length ≤ 65536) := Lib.hid HK.out.2.1
    have LT2 : Hid (T2.out.length ≤ 65536) := Lib.hid (by rw [← hT2]; split; exact LO.out; exact TelM.out_le LO.out _)
    obtain ⟨T3, hT3⟩ : ∃ x, H.tellG f key T2 = x := ⟨_, rfl⟩
    have LT3 : Hid (T3.out.length ≤ 65536) := Lib.hid (by rw [← hT3]; exact HeapM.tellG_le f _ LT2.out)
    have HKEY := Lib.hid hkey
    have HPK := Lib.hid hpk
    have HPX := Lib.hid hpx
    have HXV := Lib.hid hxv
    have HXR := Lib.hid hxr
    have HZB := Lib.hid hzb
    have XT2 := Lib.hid hT2
    have XT3 := Lib.hid hT3
    have HLT := Lib.hid hlt
    clear hkey hp1 hpk hpx hxv hxr hzb hT2 hT3 hlt
    replace S : Hid (Sep w ([boxR t (.cells #[.pointer (some ⟨h, 0, none⟩), .string ⟨List.toArray out⟩, .string ⟨#[]⟩, .int .i64 0, .int .i64 0, .string ⟨#[]⟩, .bool false] 149)] ++ bK) wc) := S
    have CR : Hid (∀ W (Q : List Res), Sep w (Q ++ bK) W → W.cell? ⟨g1, og + k * 3, none⟩ = some (.int .i64 key.kind) ∧ W.cell? ⟨g1, og + k * 3 + 1, none⟩ = some (.int .i64 key.n) ∧ W.cell? ⟨g1, og + k * 3 + 2, none⟩ = some (.string key.s)) := Lib.hid fun W Q T => by
     rw [HBbK.out] at T
     exact raThree T (Q.length + 0) (atR rfl) HKEY.out
    go_upto_region 6 with fail
    refine regionL (E := [boxR t (.cells #[.pointer (some ⟨h, 0, none⟩), .string ⟨List.toArray out⟩, .string ⟨#[]⟩, .int .i64 0, .int .i64 0, .string ⟨#[]⟩, .bool false] 149)]) (base := bK) S.out ?_
    clear S
    refine qa ?_
    refine qa (v := .bool zb) (hy := fun E Wx hSw => by (go_simp; try rw [HZB.out]; exact ⟨rfl, hSw⟩)) (h := ?_)
    refine doneL (h := fun w9 S => ?_)
    replace S := Lib.hid S
    go_upto_if 33 with fail
    go_cut [] (fun wx => Sep w ([boxR t (.cells #[.pointer (some ⟨h, 0, none⟩), .string ⟨List.toArray T2.out⟩, .string T2.fell.name, .int .i64 0, .int .i64 0, .string ⟨#[]⟩, .bool false] 149)] ++ bK) wx)
    case first =>
     cases zb with
     | false =>
      obtain rfl : (⟨out, .no⟩ : TelM) = T2 := by rw [← XT2.out, if_pos (by have := of_decide_eq_false HZB.out; omega)]
      go_wp2_with fail; go_meet; exact S.out
     | true =>
      obtain ⟨T9, hT9⟩ : ∃ x, TelM.say (⟨out, .no⟩ : TelM) [44, 32] = x := ⟨_, rfl⟩
      have XT9 := Lib.hid hT9
      have LT9 : Hid ((T9).out.length ≤ 65536) := Lib.hid (by rw [← hT9]; exact TelM.out_le LO.out _)
      clear hT9
      obtain rfl : T9 = T2 := by rw [← XT2.out, ← XT9.out, if_neg (by have := of_decide_eq_true HZB.out; omega)]
      go_upto_region 7 with fail
      refine regionL (E := [boxR t (.cells #[.pointer (some ⟨h, 0, none⟩), .string ⟨List.toArray out⟩, .string ⟨#[]⟩, .int .i64 0, .int .i64 0, .string ⟨#[]⟩, .bool false] 149)]) (base := bK) S.out ?_
      clear S
      refine qa ?_
      refine qd (.tuple #[]) [boxR t (.cells #[.pointer (some ⟨h, 0, none⟩), .string ⟨List.toArray T9.out⟩, .string T9.fell.name, .int .i64 0, .int .i64 0, .string ⟨#[]⟩, .bool false] 149)] (h1 := fun Wx hSw => by (go_simp; refine symCall ?_; have hh := rsay_ok (T := (⟨out, .no⟩ : TelM)) hSw ⟨#[44, 32]⟩ LO.out (by decide); rw [show TelM.say (⟨out, .no⟩ : TelM) (ByteArray.data ⟨#[44, 32]⟩).toList = T9 from XT9.out] at hh; exact hh)) (h2 := ?_)
      refine doneL (h := fun w10 S => ?_)
      replace S := Lib.hid S
      go_wp2_with fail; go_meet; exact S.out
    case rest =>
     replace S := Lib.hid hcut
     obtain ⟨bU, hnb⟩ : ∃ l, l = [boxR t (.cells #[.pointer (some ⟨h, 0, none⟩), .string ⟨List.toArray T2.out⟩, .string T2.fell.name, .int .i64 0, .int .i64 0, .string ⟨#[]⟩, .bool false] 149)] ++ bK := ⟨_, rfl⟩
     have HBbU := Lib.hid hnb
     replace S : Sep w ([] ++ bU) wc := by
      rw [hnb]
      refine S.out.perm ?_
      exact (show ([boxR t (.cells #[.pointer (some ⟨h, 0, none⟩), .string ⟨List.toArray T2.out⟩, .string T2.fell.name, .int .i64 0, .int .i64 0, .string ⟨#[]⟩, .bool false] 149)] ++ bK).Perm ([] ++ ([boxR t (.cells #[.pointer (some ⟨h, 0, none⟩), .string ⟨List.toArray T2.out⟩, .string T2.fell.name, .int .i64 0, .int .i64 0, .string ⟨#[]⟩, .bool false] 149)] ++ bK)) from by rw [← List.append_assoc]; exact List.Perm.append_right bK (by exact perm_of [0] (by show (List.range' 0 1).Perm [0]; decide) (by rfl)))
     clear hnb
     replace S := Lib.hid S
     have C0_bU := liftC HBbU C0_bK
     have CR_bU := liftC HBbU CR
     have Ct_bU : Hid (∀ W (Q : List Res), Sep w (Q ++ bU) W → W.cell? ⟨t, 0, none⟩ = some (.pointer (some ⟨h, 0, none⟩)) ∧ W.cell? ⟨t, 1, none⟩ = some (.string ⟨List.toArray T2.out⟩) ∧ W.cell? ⟨t, 2, none⟩ = some (.string T2.fell.name) ∧ W.cell? ⟨t, 3, none⟩ = some (.int .i64 0) ∧ W.cell? ⟨t, 4, none⟩ = some (.int .i64 0) ∧ W.cell? ⟨t, 5, none⟩ = some (.string ⟨#[]⟩) ∧ W.cell? ⟨t, 6, none⟩ = some (.bool false)) := Lib.hid fun W Q T => by
      rw [HBbU.out] at T
      have i0 := T.box (b := t) (o := .cells #[.pointer (some ⟨h, 0, none⟩), .string ⟨List.toArray T2.out⟩, .string T2.fell.name, .int .i64 0, .int .i64 0, .string ⟨#[]⟩, .bool false] 149) (Q.length + 0) (atR rfl)
      exact ⟨cellAt i0 0 rfl, cellAt i0 1 rfl, cellAt i0 2 rfl, cellAt i0 3 rfl, cellAt i0 4 rfl, cellAt i0 5 rfl, cellAt i0 6 rfl⟩
     have KG : QuietC w bA 81 #[hpV h, agV v, agV key] (.tuple #[.agg #[.int .i64 xv.kind, .int .i64 xv.n, .string xv.s], .bool xr]) := Lib.hid fun W Q T => by
      rw [HBS.out] at T ⊢
      exact rget_at T (Q.length + 1 + i) (atI1 hi) v key xv xr HXV.out HXR.out
     replace KG := (liftK HBbU (liftK HBbK KG))
     go_upto_region 8 with fail
     refine regionP 13 3 (E := [emptyR]) (base := bU) (Sep.putE S.out) ?_
     clear S
     iterate 3 refine qp ?_
     refine qp (hy := fun E Wx hSw => by ((obtain ⟨u0, u1, u2, u3, u4, u5, u6⟩ := Ct_bU.out _ _ hSw); go_simp; exact ⟨rfl, hSw⟩)) (h := ?_)
     refine qpc C0_bU ?_
     iterate 3 refine qp ?_
     refine qpc CR_bU ?_
     refine qpk KG ?_
     iterate 3 refine qp ?_
     refine endP ?_
     refine readyS [13] ?_
     refine allocS 0 rfl (fun q => .pointer (some ⟨q, 0, none⟩)) (.cells #[.int .i64 0, .int .i64 0, .string ⟨#[]⟩] 24) (h1 := fun Wx => by go_simp) (h2 := fun qz81 => ?_) (hs := nilS); simp only [Act.put, pa]; try dsimp only [List.set]
     try simp only [List.set_cons_zero, List.set_cons_succ]
     refine readyS [14] ?_
     refine detS undef [boxV qz81 xv] (h1 := fun Wx hSw => by (have hz := hSw.box (b := qz81) (o := objZ) 0 rfl; refine useZ3 hz fun z0 z1 z2 y0 y1 y2 => ?_; go_simp; exact ⟨rfl, hSw.set3 0 rfl (.int .i64 xv.kind) (.int .i64 xv.n) (.string xv.s)⟩)) (h2 := ?_) (hs := nilS); simp only [Act.put, pa]; try dsimp only [List.set]
     refine qs 15 ?_
     refine doneS (h := fun w11 S => ?_)
     replace S := Lib.hid S
     clear KG
     replace S : Hid (Sep w ([boxV qz81 xv, boxR t (.cells #[.pointer (some ⟨h, 0, none⟩), .string ⟨List.toArray T2.out⟩, .string T2.fell.name, .int .i64 0, .int .i64 0, .string ⟨#[]⟩, .bool false] 149)] ++ bK) w11) := Lib.hid (by have h_ := S.out; rw [HBbU.out] at h_; exact h_)
     clear C0_bU CR_bU Ct_bU
     obtain ⟨bZ, hnb⟩ : ∃ l, l = [boxV qz81 xv] ++ bK := ⟨_, rfl⟩
     have HBbZ := Lib.hid hnb
     replace S : Sep w ([boxR t (.cells #[.pointer (some ⟨h, 0, none⟩), .string ⟨List.toArray T2.out⟩, .string T2.fell.name, .int .i64 0, .int .i64 0, .string ⟨#[]⟩, .bool false] 149)] ++ bZ) w11 := by
      rw [hnb]
      refine S.out.perm ?_
      exact (show ([boxV qz81 xv, boxR t (.cells #[.pointer (some ⟨h, 0, none⟩), .string ⟨List.toArray T2.out⟩, .string T2.fell.name, .int .i64 0, .int .i64 0, .string ⟨#[]⟩, .bool false] 149)] ++ bK).Perm ([boxR t (.cells #[.pointer (some ⟨h, 0, none⟩), .string ⟨List.toArray T2.out⟩, .string T2.fell.name, .int .i64 0, .int .i64 0, .string ⟨#[]⟩, .bool false] 149)] ++ ([boxV qz81 xv] ++ bK)) from by rw [← List.append_assoc]; exact List.Perm.append_right bK (by exact perm_of [1, 0] (by show (List.range' 0 2).Perm [1, 0]; decide) (by rfl)))
     clear hnb
     replace S := Lib.hid S
     have C0_bZ := liftC HBbZ C0_bK
     have CR_bZ := liftC HBbZ CR
     have Cz8_bZ := baseC3 (w := w) (b := qz81) HBbZ.out 0 rfl
     have HIZ : Hid (bZ[i + 3]? = some (refR h H)) := Lib.hid (by rw [HBbZ.out]; exact HIK.out)
     go_upto_region 9 with fail
     refine regionL (E := [boxR t (.cells #[.pointer (some ⟨h, 0, none⟩), .string ⟨List.toArray T2.out⟩, .string T2.fell.name, .int .i64 0, .int .i64 0, .string ⟨#[]⟩, .bool false] 149)]) (base := bZ) S.out ?_
     clear S
     iterate 4 refine qa ?_
     refine qc CR_bZ ?_
     iterate 2 refine qa ?_
     refine qd (.tuple #[]) [boxR t (.cells #[.pointer (some ⟨h, 0, none⟩), .string ⟨List.toArray T3.out⟩, .string T3.fell.name, .int .i64 0, .int .i64 0, .string ⟨#[]⟩, .bool false] 149)] (h1 := fun Wx hSw => by (go_simp; refine symCall ?_; have hh := HIH.out _ _ T2 hSw (i + 3) HIZ.out LT2.out key HPK.out (d + 1) HD.out.1 (by have := HD.out.2; omega); rw [XT3.out] at hh; exact hh)) (h2 := ?_)
     refine doneL (h := fun w12 S => ?_)
     replace S := Lib.hid S
     obtain ⟨T4, hT4⟩ : ∃ x, TelM.say T3 [58, 32] = x := ⟨_, rfl⟩
     have XT4 := Lib.hid hT4
     have LT4 : Hid ((T4).out.length ≤ 65536) := Lib.hid (by rw [← hT4]; exact TelM.out_le LT3.out _)
     clear hT4
     go_upto_region 10 with fail
     refine regionL (E := [boxR t (.cells #[.pointer (some ⟨h, 0, none⟩), .string ⟨List.toArray T3.out⟩, .string T3.fell.name, .int .i64 0, .int .i64 0, .string ⟨#[]⟩, .bool false] 149)]) (base := bZ) S.out ?_
     clear S
     refine qa ?_
     refine qd (.tuple #[]) [boxR t (.cells #[.pointer (some ⟨h, 0, none⟩), .string ⟨List.toArray T4.out⟩, .string T4.fell.name, .int .i64 0, .int .i64 0, .string ⟨#[]⟩, .bool false] 149)] (h1 := fun Wx hSw => by (go_simp; refine symCall ?_; have hh := rsay_ok (T := T3) hSw ⟨#[58, 32]⟩ LT3.out (by decide); rw [show TelM.say T3 (ByteArray.data ⟨#[58, 32]⟩).toList = T4 from XT4.out] at hh; exact hh)) (h2 := ?_)
     refine doneL (h := fun w13 S => ?_)
     replace S := Lib.hid S
     obtain ⟨T5, hT5⟩ : ∃ x, H.tellG f xv T4 = x := ⟨_, rfl⟩
     have XT5 := Lib.hid hT5
     have LT5 : Hid (T5.out.length ≤ 65536) := Lib.hid (by rw [← hT5]; exact HeapM.tellG_le f _ LT4.out)
     clear hT5
     go_upto_region 11 with fail
     refine regionL (E := [boxR t (.cells #[.pointer (some ⟨h, 0, none⟩), .string ⟨List.toArray T4.out⟩, .string T4.fell.name, .int .i64 0, .int .i64 0, .string ⟨#[]⟩, .bool false] 149)]) (base := bZ) S.out ?_
     clear S
     refine qa ?_
     refine qc Cz8_bZ ?_
     iterate 2 refine qa ?_
     refine qd (.tuple #[]) [boxR t (.cells #[.pointer (some ⟨h, 0, none⟩), .string ⟨List.toArray T5.out⟩, .string T5.fell.name, .int .i64 0, .int .i64 0, .string ⟨#[]⟩, .bool false] 149)] (h1 := fun Wx hSw => by (go_simp; refine symCall ?_; have hh := HIH.out _ _ T4 hSw (i + 3) HIZ.out LT4.out xv HPX.out (d + 1) HD.out.1 (by have := HD.out.2; omega); rw [XT5.out] at hh; exact hh)) (h2 := ?_)
     refine doneL (h := fun w14 S => ?_)
     replace S := Lib.hid S
     have hgo := HGO.out
     rw [XT2.out] at hgo
     simp only [XT3.out, XT4.out, XT5.out] at hgo
     have HGO2 := Lib.hid hgo
     clear hgo
     have hi1 : IntKind.i64.wrap ((k : Int) + 1) = (k : Int) + 1 := IntWalk.i64_in _ (by have := HLT.out; omega)
     replace S := S.out
     rw [HBbZ.out] at S
     replace S := Lib.hid (S.sub (Qs := [boxR t (.cells #[.pointer (some ⟨h, 0, none⟩), .string ⟨List.toArray T5.out⟩, .string T5.fell.name, .int .i64 0, .int .i64 0, .string ⟨#[]⟩, .bool false] 149)] ++ bK) (.cons_cons _ (.cons _ (List.Sublist.refl _))))
     go_wp2
     exact ⟨⟨k + 1, T5.out, T5.fell, Lib.hid ⟨HLT.out, LT5.out, HGO2.out⟩, by go_num, S.out⟩, by have := HLT.out; simp [intOf]; omega⟩
   | false =>
    have hte : (⟨out, fell⟩ : TelM) = TE := parts_stop HPS.out HK.out.2.2 (by
     have hg := HGB.out; rw [Bool.and_eq_false_iff, decide_eq_false_iff_not, decide_eq_false_iff_not] at hg
     rcases hg with hg | hg; exact .inl (by have := HLEN.out; omega); exact .inr hg)
    subst hte
    obtain ⟨T6, hT6⟩ : ∃ x, TelM.say (⟨out, fell⟩ : TelM) [125] = x := ⟨_, rfl⟩
    have XT6 := Lib.hid hT6
    have LT6 : Hid ((T6).out.length ≤ 65536) := Lib.hid (by rw [← hT6]; exact TelM.out_le LTE.out _)
    clear hT6
    go_upto_region 12 with fail
    refine regionL (E := [boxR t (.cells #[.pointer (some ⟨h, 0, none⟩), .string ⟨List.toArray out⟩, .string fell.name, .int .i64 0, .int .i64 0, .string ⟨#[]⟩, .bool false] 149)]) (base := bK) S.out ?_
    clear S
    refine qa ?_
    refine qd (.tuple #[]) [boxR t (.cells #[.pointer (some ⟨h, 0, none⟩), .string ⟨List.toArray T6.out⟩, .string T6.fell.name, .int .i64 0, .int .i64 0, .string ⟨#[]⟩, .bool false] 149)] (h1 := fun Wx hSw => by (go_simp; refine symCall ?_; have hh := rsay_ok (T := (⟨out, fell⟩ : TelM)) hSw ⟨#[125]⟩ LTE.out (by decide); rw [show TelM.say (⟨out, fell⟩ : TelM) (ByteArray.data ⟨#[125]⟩).toList = T6 from XT6.out] at hh; exact hh)) (h2 := ?_)
    refine doneL (h := fun w15 S => ?_)
    replace S := Lib.hid S
    go_wp2_with fail
    first | go_end0 | go_returns
    rw [XT6.out]
    replace S := S.out
    rw [HBbK.out, HBS.out] at S
    exact ⟨rfl, S.sub (.cons_cons _ (.cons _ (.cons _ (List.Sublist.refl _))))⟩
end
end Go.Proofs.YtijlebhoapdfnaaGreat
