/- ch 16: the reference's texts. -/
import Derived.Test.YtijlebhoapdfnaaGreatRNumD
import Derived.Test.YtijlebhoapdfnaaGreatQuoA
import Derived.Test.YtijlebhoapdfnaaGreatAlike16
import Derived.Test.YtijlebhoapdfnaaGreatRows3
import Derived.Test.YtijlebhoapdfnaaGreatRef2
import Derived.Test.YtijlebhoapdfnaaGreatTellA
/- ch 16: the reference's equality. -/
/- ch 16: equality is an equivalence, where nothing is raised. -/
namespace Go.Proofs.YtijlebhoapdfnaaGreat
set_option linter.unusedSimpArgs false
open Go.RowKit
set_option linter.unusedVariables false
section
variable {H : HeapM}
theorem kind_four {v : V} (h : H.kind v ≠ 0) : v.kind = 4 := by
 unfold HeapM.kind HeapM.of at h
 by_cases e : v.kind = 4
 ·
  exact e
 ·
  rw [if_neg e] at h; exact absurd rfl h
theorem of_same {a b : V} (ha : H.kind a ≠ 0) (hb : H.kind b ≠ 0) (hn : a.n = b.n) : H.of a = H.of b := by
 unfold HeapM.of
 rw [if_pos (kind_four ha), if_pos (kind_four hb), hn]
end
end Go.Proofs.YtijlebhoapdfnaaGreat
/- ch 16: equality as the reference asks (plain). -/
namespace Go.Proofs.YtijlebhoapdfnaaGreat
set_option linter.unusedSimpArgs false
open Go.RowKit
set_option linter.unusedVariables false
section
variable {H : HeapM}
end
end Go.Proofs.YtijlebhoapdfnaaGreat
set_option maxRecDepth 100000
set_option maxHeartbeats 12800000
namespace Go.Proofs.YtijlebhoapdfnaaGreat
set_option linter.unusedSimpArgs false
open Go.RowKit
set_option linter.unusedVariables false
attribute [local irreducible] wpSeqS wpAnyS wpPreS
theorem ra_three {a : Option Addr} {n c : Nat} {l : List V} {W : World} (hs : SeesV W (.slice a n c) l) {k : Nat} {x : V} (hx : l[k]? = some x) : ∃ g o, a = some ⟨g, o, none⟩ ∧ ∀ i v, l[i]? = some v → W.cell? ⟨g, o + i * 3, none⟩ = some (.int .i64 v.kind) ∧ W.cell? ⟨g, o + i * 3 + 1, none⟩ = some (.int .i64 v.n) ∧ W.cell? ⟨g, o + i * 3 + 2, none⟩ = some (.string v.s) := by
 obtain ⟨_, _, e0, p1, p2, p3⟩ := hs
 cases e0
 rcases p3 with hh | hh
 ·
  subst hh; simp at hx
 ·
  exact hh
section
variable {w W : World} {Rs : List Res} {h : Nat} {H : HeapM}
theorem raThree {g o c : Nat} {l : List V} (S : Sep w Rs W) (j : Nat) (hj : Rs[j]? = some (valsR (.slice (some ⟨g, o, none⟩) l.length c) l)) {k : Nat} {x : V} (hx : l[k]? = some x) : W.cell? ⟨g, o + k * 3, none⟩ = some (.int .i64 x.kind) ∧ W.cell? ⟨g, o + k * 3 + 1, none⟩ = some (.int .i64 x.n) ∧ W.cell? ⟨g, o + k * 3 + 2, none⟩ = some (.string x.s) := by
 obtain ⟨g1, o1, e, hh⟩ := ra_three (S.row j hj).sees' hx
 cases e
 exact hh k x hx
theorem rexc_ok (S : Sep w Rs W) (s : ByteArray) : Calls Tryz.prog 94 #[.string s] W fun e W' => e = .returned (excN s) ∧ Sep w Rs W' := by
 obtain ⟨b, hb⟩ : ∃ gx_, (W.heap.size) = gx_ := ⟨_, rfl⟩
 replace S := (S.alloc (.cells #[.string ⟨#[]⟩, .int .i64 0, .int .i64 0, .string ⟨#[]⟩, .bool false] 33))
 simp only [World.size_alloc, hb] at S
 obtain ⟨bA, hbs⟩ : ∃ l, l = Rs := ⟨_, rfl⟩
 have HBS := Lib.hid hbs
 replace S := enterP (w := w) (all := [boxE b]) (E := [boxE b]) (B := []) (Rs := Rs) S hbs (perm_of [0] (by show (List.range' 0 1).Perm [0]; decide) (by rfl))
 clear hbs
 replace S := Lib.hid S
 go_enter Tryz.func94, Tryz.ntmps94
 go_upto_region 1 with fail
 try simp only [World.size_alloc, hb]
 clear hb
 refine regionL (E := [boxE b]) (base := bA) S.out ?_
 clear S
 iterate 2 refine qa ?_
 refine qd undef [boxN b s] (h1 := fun Wx hSw => by (have hz := hSw.box (b := b) (o := objE) 0 rfl; refine useZ5 hz fun z0 z1 z2 z3 z4 y0 y1 y2 y3 y4 => ?_; go_simp; exact ⟨rfl, hSw.set5 0 rfl (.string s) (.int .i64 0) (.int .i64 0) (.string ⟨#[]⟩) (.bool false)⟩)) (h2 := ?_)
 refine doneL (h := fun w1 S => ?_)
 refine useR5 (S.box (b := b) (o := objN s) 0 rfl) fun r0 r1 r2 r3 r4 => ?_
 replace S := Lib.hid S
 repeat (first | go_values | go_skip | go_guarded | go_step)
 refine bodyPost_ret (v := excN s) ?_ ?_ ?_
 ·
  simp [results, Tryz.results94, go_sem, r0, r1, r2, r3, r4]
 ·
  rfl
 refine ⟨rfl, ?_⟩
 replace S := S.out
 rw [HBS.out] at S
 exact S.tail
end
end Go.Proofs.YtijlebhoapdfnaaGreat
set_option maxRecDepth 100000
set_option maxHeartbeats 12800000
namespace Go.Proofs.YtijlebhoapdfnaaGreat
set_option linter.unusedSimpArgs false
open Go.RowKit
set_option linter.unusedVariables false
attribute [local irreducible] wpSeqS wpAnyS wpPreS
section
variable {w W : World} {Rs : List Res} {h : Nat} {H : HeapM}
theorem rquote_ok (S : Sep w Rs W) (s : ByteArray) (hs : s.size ≤ 1000000) : Calls Tryz.prog 201 #[.string s] W fun e W' => e = .returned (.string ⟨(quoteL s.data.toList).toArray⟩) ∧ Sep w Rs W' := by
 obtain ⟨L, hL⟩ : ∃ L, s.data.toList = L := ⟨_, rfl⟩
 have hLn : s.size = L.length := by rw [← hL]; rfl
 rw [hL]
 have HL := Lib.hid (And.intro hL hLn)
 have HS := Lib.hid hs
 have hn1 : (s.size : Int) ≤ 1000000 := by omega
 clear hL hLn hs
 obtain ⟨bA, hbs⟩ : ∃ l, l = Rs := ⟨_, rfl⟩
 have HBS := Lib.hid hbs
 replace S : Sep w ([] ++ bA) W := by rw [hbs]; exact S
 clear hbs
 replace S := Lib.hid S
 go_enter Tryz.func201, Tryz.ntmps201
 go_wp2
 go_loopw [4, 5] (fun s4 s5 wr => ∃ (k : Nat) (q : ByteArray), Hid (k ≤ s.size ∧ q = ⟨(39 :: (L.take k).flatMap quoteC).toArray⟩) ∧ s4 = .string q ∧ s5 = .int .i64 k ∧ Sep w ([] ++ bA) wr) (fun s4 s5 _ => s.size - (intOf s5).toNat)
 case atStart =>
  exact ⟨0, ⟨#[39]⟩, Lib.hid ⟨by omega, by simp⟩, by first | rfl | trivial, by first | rfl | trivial, S.out⟩
 case round =>
  clear S
  obtain ⟨k, q, HK, rfl, rfl, S⟩ := hrel
  replace S := Lib.hid S
  have hki : (k : Int) ≤ s.size := by have := HK.out.1; omega
  have hql : q.size ≤ 5000000 := by
   have h1 := quote_len (L.take k); have h2 := HL.out.2; have h3 := HS.out; rw [List.length_take] at h1
   rw [HK.out.2]; show (39 :: (L.take k).flatMap quoteC).toArray.size ≤ _; rw [List.size_toArray, List.length_cons]; omega
  have HQL := Lib.hid hql
  have c1 : ¬ 9223372036854775807 < q.size + 1 := by omega
  have c2 : ¬ 9223372036854775807 < q.size + 2 := by omega
  clear hql
  by_cases hlt : k < s.size
  ·
   have hlti : (k : Int) < s.size := by omega
   have hk0 : (0 : Int) ≤ k := by omega
   have hk1 : (k : Int) + 1 ≤ s.size := by omega
   have hk2 : (0 : Int) ≤ (k : Int) + 1 := by omega
   have hk3 : (k : Int) ≤ (k : Int) + 1 := by omega
   have hw1 : IntKind.i64.wrap ((k : Int) + 1) = (k : Int) + 1 := IntWalk.i64_in _ (by omega)
   obtain ⟨c, hc⟩ : ∃ c, L[k]? = some c := ⟨L[k]'(by have := HL.out.2; omega), by simp⟩
   obtain ⟨ci, hci⟩ : ∃ ci : Int, (c.toNat : Int) = ci := ⟨_, rfl⟩
   have hcx : ∀ h : k < s.size, (((s[k]'h).toNat : Nat) : Int) = ci := fun h => by
    rw [← hci]; congr 2; rw [← HL.out.1] at hc; obtain ⟨h1, h2⟩ := List.getElem?_eq_some_iff.1 hc; rw [← h2]; rfl
   have hex : s.extract k (k + 1) = ⟨#[c]⟩ := by
    obtain ⟨h1, h2⟩ := List.getElem?_eq_some_iff.1 hc
    apply ByteArray.ext; apply Array.toList_inj.1; rw [ByteArray.data_extract, Array.toList_extract, HL.out.1]; simp [List.extract_eq_take_drop]
    rw [List.drop_eq_getElem_cons h1, h2]; rfl
   have hd : ∀ t : ByteArray, t.data.toList = (39 :: (L.take k).flatMap quoteC) ++ quoteC c → t = ⟨(39 :: (L.take (k + 1)).flatMap quoteC).toArray⟩ := fun t ht => by
    rw [quote_snoc hc, ← ht]
   have hcu : ∀ n : Nat, n < 256 → ((c = n.toUInt8) ↔ ci = n) := fun n hn => by
    rw [← hci, ← UInt8.toNat_inj]
    simp [Nat.toUInt8, UInt8.toNat_ofNat']; omega
   have hc255 : 0 ≤ ci ∧ ci ≤ 255 := by have := c.toNat_lt; omega
   obtain ⟨hci0, hci1⟩ := hc255
   have Xhcx := Lib.hid hcx
   have Xhex := Lib.hid hex
   have Xhd := Lib.hid hd
   have Xhcu := Lib.hid hcu
   have Xhci := Lib.hid hci
   have Xhlt := Lib.hid hlt
   clear hcx hex hd hcu hci hlt hc
   go_upto_region 6 with fail
   refine regionL (E := []) (base := bA) S.out ?_
   clear S
   iterate 2 refine qa ?_
   refine qa (v := .int .u8 ci) (hy := fun E Wx hSw => by (go_simp; try rw [Xhcx.out]; exact ⟨rfl, hSw⟩)) (h := ?_)
   refine qa ?_
   refine doneL (h := fun w1 S => ?_)
   replace S := Lib.hid S
   by_cases e1 : ci = 10
   ·
    subst e1
    go_upto_region 9 with fail
    refine regionL (E := []) (base := bA) S.out ?_
    clear S
    iterate 3 refine qa ?_
    refine doneL (h := fun w2 S => ?_)
    replace S := Lib.hid S
    clear c1 c2
    have hq : quoteC c = [92, 110] := by have : c = 10 := (Xhcu.out 10 (by decide)).2 rfl; rw [this]; rfl
    go_wp2
    refine ⟨⟨k + 1, _, Lib.hid ⟨by have := Xhlt.out; omega, Xhd.out _ ?_⟩, by first | rfl | trivial, by first | rfl | go_num, S.out⟩, by have := Xhlt.out; simp [intOf]; omega⟩
    rw [hq, HK.out.2]; simp
   by_cases e2 : ci = 9
   ·
    subst e2
    clear e1
    go_upto_region 11 with fail
    refine regionL (E := []) (base := bA) S.out ?_
    clear S
    iterate 3 refine qa ?_
    refine doneL (h := fun w3 S => ?_)
    replace S := Lib.hid S
    clear c1 c2
    have hq : quoteC c = [92, 116] := by have : c = 9 := (Xhcu.out 9 (by decide)).2 rfl; rw [this]; rfl
    go_wp2
    refine ⟨⟨k + 1, _, Lib.hid ⟨by have := Xhlt.out; omega, Xhd.out _ ?_⟩, by first | rfl | trivial, by first | rfl | go_num, S.out⟩, by have := Xhlt.out; simp [intOf]; omega⟩
    rw [hq, HK.out.2]; simp
   by_cases e3 : ci = 92
   ·
    have e9 : c = 92 := (Xhcu.out 92 (by decide)).2 e3
    have E9 := Lib.hid e9
    clear e9
    have c3 : ¬ 9223372036854775807 < q.size + 1 + 1 := by have := HQL.out; omega
    have g1 : (ci == 10) = false := by simp [e1]
    have g2 : (ci == 9) = false := by simp [e2]
    have g3 : (ci == 92) = true := by simp [e3]
    clear e1 e2 e3
    go_upto_region 13 with fail
    refine regionL (E := []) (base := bA) S.out ?_
    clear S
    iterate 6 refine qa ?_
    refine qa (v := .string ⟨#[c]⟩) (hy := fun E Wx hSw => by (go_simp; try rw [Xhex.out]; exact ⟨rfl, hSw⟩)) (h := ?_)
    iterate 2 refine qa ?_
    refine doneL (h := fun w4 S => ?_)
    replace S := Lib.hid S
    clear c3 g1 g2 g3
    clear c1 c2
    have hq : quoteC c = [92, c] := by rw [E9.out]; rfl
    go_wp2
    refine ⟨⟨k + 1, _, Lib.hid ⟨by have := Xhlt.out; omega, Xhd.out _ ?_⟩, by first | rfl | trivial, by first | rfl | go_num, S.out⟩, by have := Xhlt.out; simp [intOf]; omega⟩
    rw [hq, HK.out.2]; simp
   by_cases e4 : ci = 39
   ·
    have e9 : c = 39 := (Xhcu.out 39 (by decide)).2 e4
    have E9 := Lib.hid e9
    clear e9
    have c3 : ¬ 9223372036854775807 < q.size + 1 + 1 := by have := HQL.out; omega
    have g1 : (ci == 10) = false := by simp [e1]
    have g2 : (ci == 9) = false := by simp [e2]
    have g3 : (ci == 92) = false := by simp [e3]
    have g4 : (ci == 39) = true := by simp [e4]
    clear e1 e2 e3 e4
    go_upto_region 13 with fail
    refine regionL (E := []) (base := bA) S.out ?_
    clear S
    iterate 6 refine qa ?_
    refine qa (v := .string ⟨#[c]⟩) (hy := fun E Wx hSw => by (go_simp; try rw [Xhex.out]; exact ⟨rfl, hSw⟩)) (h := ?_)
    iterate 2 refine qa ?_
    refine doneL (h := fun w5 S => ?_)
    replace S := Lib.hid S
    clear c3 g1 g2 g3 g4
    clear c1 c2
    have hq : quoteC c = [92, c] := by rw [E9.out]; rfl
    go_wp2
    refine ⟨⟨k + 1, _, Lib.hid ⟨by have := Xhlt.out; omega, Xhd.out _ ?_⟩, by first | rfl | trivial, by first | rfl | go_num, S.out⟩, by have := Xhlt.out; simp [intOf]; omega⟩
    rw [hq, HK.out.2]; simp
   have hcn : c ≠ 10 ∧ c ≠ 9 ∧ ¬(c = 92 ∨ c = 39) := ⟨fun h => e1 ((Xhcu.out 10 (by decide)).1 h), fun h => e2 ((Xhcu.out 9 (by decide)).1 h), fun h => by
    rcases h with h | h
    ·
     exact e3 ((Xhcu.out 92 (by decide)).1 h)
    ·
     exact e4 ((Xhcu.out 39 (by decide)).1 h)⟩
   have hcl : (c < 32 ∨ 126 < c) ↔ (ci < 32 ∨ 126 < ci) := by
    rw [UInt8.lt_iff_toNat_lt, UInt8.lt_iff_toNat_lt, ← Xhci.out]
    simp; omega
   have g1 : (ci == 10) = false := by simp [e1]
   have g2 : (ci == 9) = false := by simp [e2]
   have g3 : (ci == 92) = false := by simp [e3]
   have g4 : (ci == 39) = false := by simp [e4]
   have HCN := Lib.hid hcn
   have HCL := Lib.hid hcl
   clear hcn hcl e1 e2 e3 e4
   by_cases e5 : ci < 32 ∨ 126 < ci
   ·
    have HH : Hid (quoteC c = [92, 120, hexD (c.toNat / 16), hexD (c.toNat % 16)]) := Lib.hid (by
     unfold quoteC
     rw [if_neg HCN.out.1, if_neg HCN.out.2.1, if_neg HCN.out.2.2, if_pos (HCL.out.2 e5)])
    obtain ⟨hi, hhi⟩ : ∃ hi : Int, ((c.toNat / 16 : Nat) : Int) = hi := ⟨_, rfl⟩
    obtain ⟨lo, hlo⟩ : ∃ lo : Int, ((c.toNat % 16 : Nat) : Int) = lo := ⟨_, rfl⟩
    have hk3 := Xhci.out
    have b1 : 0 ≤ hi := by omega
    have b2 : hi < 16 := by omega
    have b3 : 0 ≤ lo := by omega
    have b4 : lo < 16 := by omega
    have d1 : IntKind.u8.wrap (ci / 16) = hi := by simp [IntKind.wrap, IntKind.bits, IntKind.signed]; omega
    have d2 : IntKind.u8.wrap (ci.tdiv 16) = hi := by rw [Int.tdiv_eq_ediv_of_nonneg (by omega)]; exact d1
    have d3 : ci.tmod 16 = lo := by rw [Int.tmod_eq_emod_of_nonneg (by omega)]; omega
    have d4 : IntKind.u8.wrap lo = lo := by simp [IntKind.wrap, IntKind.bits, IntKind.signed]; omega
    have w1_ : IntKind.u8.wrap (hi + 1) = hi + 1 := by simp [IntKind.wrap, IntKind.bits, IntKind.signed]; omega
    have w2_ : IntKind.u8.wrap (lo + 1) = lo + 1 := by simp [IntKind.wrap, IntKind.bits, IntKind.signed]; omega
    have w3_ : hi + 1 ≤ 16 := by omega
    have w4_ : lo + 1 ≤ 16 := by omega
    have w5_ : hi ≤ hi + 1 := by omega
    have w6_ : lo ≤ lo + 1 := by omega
    have w9_ : 0 ≤ hi + 1 := by omega
    have w10_ : 0 ≤ lo + 1 := by omega
    have x1 : hexS.extract hi.toNat (hi + 1).toNat = ⟨#[hexD (c.toNat / 16)]⟩ := by
     have : hi.toNat = c.toNat / 16 := by omega
     rw [show (hi + 1).toNat = hi.toNat + 1 by omega, this]
     exact hex_at _ (by omega)
    have x2 : hexS.extract lo.toNat (lo + 1).toNat = ⟨#[hexD (c.toNat % 16)]⟩ := by
     have : lo.toNat = c.toNat % 16 := by omega
     rw [show (lo + 1).toNat = lo.toNat + 1 by omega, this]
     exact hex_at _ (by omega)
    have X1 := Lib.hid x1
    have X2 := Lib.hid x2
    have c3 : ¬ 9223372036854775807 < q.size + 2 + 1 := by have := HQL.out; omega
    have c4 : ¬ 9223372036854775807 < q.size + 2 + 1 + 1 := by have := HQL.out; omega
    obtain ⟨h1, hh1⟩ : ∃ x, hexD (c.toNat / 16) = x := ⟨_, rfl⟩
    obtain ⟨h2, hh2⟩ : ∃ x, hexD (c.toNat % 16) = x := ⟨_, rfl⟩
    rw [hh1] at X1 HH
    rw [hh2] at X2 HH
    clear x1 x2 hhi hlo hk3 hh1 hh2
    by_cases e6 : ci < 32
    ·
     have g5 : ¬ 32 ≤ ci := by omega
     have g6 : decide (32 ≤ ci) = false := by simp; omega
     clear e5 e6
     go_upto_region 7 with fail
     refine regionP 19 0 (E := []) (base := bA) S.out ?_
     clear S
     iterate 8 refine qp ?_
     refine qp (v := .string ⟨#[h1]⟩) (hy := fun E Wx hSw => by (go_simp; try rw [X1.out]; exact ⟨rfl, hSw⟩)) (h := ?_)
     iterate 7 refine qp ?_
     refine qp (v := .string ⟨#[h2]⟩) (hy := fun E Wx hSw => by (go_simp; try rw [X2.out]; exact ⟨rfl, hSw⟩)) (h := ?_)
     iterate 2 refine qp ?_
     refine endP ?_
     refine doneS (h := fun w6 S => ?_)
     replace S := Lib.hid S
     clear g1 g2 g3 g4 g5 g6 c3 c4 d1 d2 d3 d4 b1 b2 b3 b4 w1_ w2_ w3_ w4_ w5_ w6_ w9_ w10_
     clear c1 c2
     have hq : quoteC c = [92, 120, h1, h2] := HH.out
     go_wp2
     refine ⟨⟨k + 1, _, Lib.hid ⟨by have := Xhlt.out; omega, Xhd.out _ ?_⟩, by first | rfl | trivial, by first | rfl | go_num, S.out⟩, by have := Xhlt.out; simp [intOf]; omega⟩
     rw [hq, HK.out.2]; simp
    ·
     have g5 : 32 ≤ ci := by omega
     have g6 : ¬ ci < 127 := by omega
     clear e5 e6
     go_upto_region 7 with fail
     refine regionP 19 0 (E := []) (base := bA) S.out ?_
     clear S
     iterate 8 refine qp ?_
     refine qp (v := .string ⟨#[h1]⟩) (hy := fun E Wx hSw => by (go_simp; try rw [X1.out]; exact ⟨rfl, hSw⟩)) (h := ?_)
     iterate 7 refine qp ?_
     refine qp (v := .string ⟨#[h2]⟩) (hy := fun E Wx hSw => by (go_simp; try rw [X2.out]; exact ⟨rfl, hSw⟩)) (h := ?_)
     iterate 2 refine qp ?_
     refine endP ?_
     refine doneS (h := fun w7 S => ?_)
     replace S := Lib.hid S
     clear g1 g2 g3 g4 g5 g6 c3 c4 d1 d2 d3 d4 b1 b2 b3 b4 w1_ w2_ w3_ w4_ w5_ w6_ w9_ w10_
     clear c1 c2
     have hq : quoteC c = [92, 120, h1, h2] := HH.out
     go_wp2
     refine ⟨⟨k + 1, _, Lib.hid ⟨by have := Xhlt.out; omega, Xhd.out _ ?_⟩, by first | rfl | trivial, by first | rfl | go_num, S.out⟩, by have := Xhlt.out; simp [intOf]; omega⟩
     rw [hq, HK.out.2]; simp
   ·
    have g5 : 32 ≤ ci := by omega
    have g6 : ci < 127 := by omega
    have HH : Hid (quoteC c = [c]) := Lib.hid (by
     unfold quoteC
     rw [if_neg HCN.out.1, if_neg HCN.out.2.1, if_neg HCN.out.2.2, if_neg (fun e => e5 (HCL.out.1 e))])
    clear e5
    go_upto_region 15 with fail
    refine regionL (E := []) (base := bA) S.out ?_
    clear S
    iterate 5 refine qa ?_
    refine qa (v := .string ⟨#[c]⟩) (hy := fun E Wx hSw => by (go_simp; try rw [Xhex.out]; exact ⟨rfl, hSw⟩)) (h := ?_)
    iterate 2 refine qa ?_
    refine doneL (h := fun w8 S => ?_)
    replace S := Lib.hid S
    clear g1 g2 g3 g4 g5 g6
    clear c1 c2
    have hq : quoteC c = [c] := HH.out
    go_wp2
    refine ⟨⟨k + 1, _, Lib.hid ⟨by have := Xhlt.out; omega, Xhd.out _ ?_⟩, by first | rfl | trivial, by first | rfl | go_num, S.out⟩, by have := Xhlt.out; simp [intOf]; omega⟩
    rw [hq, HK.out.2]; simp
  ·
   have hks : ¬ (k : Int) < s.size := by omega
   have hkL : L.take k = L := List.take_of_length_le (by have := HL.out.2; omega)
   have hqe : q ++ ⟨#[39]⟩ = ⟨(quoteL L).toArray⟩ := by rw [HK.out.2, hkL]; apply ByteArray.ext; simp [quoteL]
   have HQE := Lib.hid hqe
   clear hqe hkL c2 hlt
   go_wp2
   refine bodyPost_ret (v := .string (q ++ ⟨#[39]⟩)) ?_ ?_ ?_
   ·
    simp [results, Tryz.results201, go_sem]
   ·
    rfl
   refine ⟨by rw [HQE.out], ?_⟩
   replace S := S.out
   rw [HBS.out] at S
   exact S
end
end Go.Proofs.YtijlebhoapdfnaaGreat
