/-
 OperateRepr: for any objects and any value, the law returns true: any value is told as the document says. No condition.
-/
import Derived.Test.YtijlebhoapdfnaaGreatShownP
import Derived.Test.YtijlebhoapdfnaaGreatFrame
import Derived.Test.YtijlebhoapdfnaaGreatAlike16
import Derived.Test.YtijlebhoapdfnaaGreatStrO
set_option maxRecDepth 100000
set_option maxHeartbeats 12800000
namespace Go.Proofs.YtijlebhoapdfnaaGreat.operateRepr
set_option linter.unusedSimpArgs false
open Go.ChangeShapes Go.WideShapes Go.ChangeAt Go.RowKit
open Go.ChangeMaps (open_string)
set_option linter.unusedVariables false
attribute [local irreducible] wpSeqS wpAnyS wpPreS
def refV (i : Nat) : V := ⟨4, ((i % 1000000 : Nat) : Int), ⟨#[]⟩, by decide, okI_of (by omega), by decide⟩
/-- The row of what is told. -/
def rowL (x : V) (k : Nat) : List V := plainV x :: (List.range k).map refV
theorem rowL_len (x : V) (k : Nat) : (rowL x k).length = k + 1 := by simp [rowL]
theorem rowL_next (x : V) (k : Nat) : rowL x k ++ [refV k] = rowL x (k + 1) := by simp [rowL, List.range_succ]
theorem rowL_short (x : V) (k : Nat) : ∀ v ∈ rowL x k, v.s.size ≤ 8 := fun v hv => by
 rcases List.mem_cons.1 hv with e | e
 ·
  rw [e]; exact plainV_size x
 ·
  obtain ⟨i, -, rfl⟩ := List.mem_map.1 e; show (⟨#[]⟩ : ByteArray).size ≤ 8; decide
theorem walk (w : World) (sl : Value) (l : List ObjI) (hs : SeesO w sl l) (x0 : V) :
  Calls Tryz.prog 6 #[sl, .agg #[.int .i64 x0.kind, .int .i64 x0.n, .string x0.s]] w fun e W' => e = .returned (.bool true) ∧ Below w.heap.size w W' := by
 obtain ⟨a, ha⟩ : ∃ z, z = plainV x0 := ⟨_, rfl⟩
 obtain ⟨H, hH⟩ : ∃ H, H = madeO l := ⟨_, rfl⟩
 have HF : Hid (H.Fit 200) := Lib.hid (by rw [hH]; exact madeO_fit hs.2)
 have HSH : Hid H.Short := Lib.hid (by rw [hH]; exact madeO_short l)
 obtain ⟨n, hn⟩ : ∃ n, n = H.objs.length := ⟨_, rfl⟩
 have HNL : Hid (n ≤ 200) := Lib.hid (by have := HF.out.G.len; omega)
 have Ha_ := Lib.hid ha
 have HH_ := Lib.hid hH
 have Hn_ := Lib.hid hn
 have HS := Lib.hid hs
 have S := Sep.start (Below.refl w.heap.size w)
 obtain ⟨q3, hq3⟩ : ∃ gx_, (w.heap.size) = gx_ := ⟨_, rfl⟩
 replace S := S.alloc (.cells #[.int .i64 x0.kind, .int .i64 x0.n, .string x0.s] 24)
 rw [hq3] at S ⊢
 have M0 := Lib.hid (shown_ok S)
 clear S ha hH hs hn
 go_enter Tryz.func6, Tryz.ntmps6
 go_upto_region 1 with fail
 try simp only [hq3]
 have HQ3 := Lib.hid hq3
 clear hq3
 go_wp2_with fail
 refine M0.out.mono ?_
 rintro e w1 ⟨rfl, S⟩
 clear M0
 have M := Lib.hid (made16_ok S sl l HS.out)
 clear S
 go_wp2_with fail
 refine M.out.mono ?_
 rintro e w2 ⟨h, y, rfl, S⟩
 clear M
 rw [← HH_.out] at S
 replace S : Sep w (heapR h H :: refR y H :: boxV q3 x0 :: []) _ := S
 refine named (heapR h H :: refR y H :: boxV q3 x0 :: [] : List Res) fun b5_2 hb5_2 => ?_
 have Hb5_2 := Lib.hid hb5_2
 have Kb5_2 : Hid (∀ W (Q : List Res), Sep w (Q ++ b5_2) W → True) := Lib.hid fun W Q T => by
  rw [hb5_2] at T
  trivial
 have Cb5_2_0 := baseC3 (w := w) (b := q3) hb5_2 2 rfl
 have K5_1 : QuietC w b5_2 9 #[agV x0] (.agg #[.int .i64 a.kind, .int .i64 a.n, .string a.s]) := Lib.hid fun W Q T => by
  rw [Hb5_2.out] at T ⊢
  exact (by have hh := lplain_ok T x0; rw [← Ha_.out] at hh; exact hh)
 replace S := Lib.hid S
 clear hb5_2
 go_upto_region 5 with fail
 have S1 : Sep w ([] ++ b5_2) (w2) := by rw [Hb5_2.out]; exact S.out
 clear S
 refine regionL (E := [emptyR]) (base := b5_2) (Sep.putE S1) ?_
 clear S1
 refine qc Cb5_2_0 ?_
 refine qk K5_1 ?_
 refine stepL (fun v E1 => ∃ (q_4_1 : Nat), v = .slice (some ⟨q_4_1, 0, none⟩) 1 1 ∧ E1 = [valsR (.slice (some ⟨q_4_1, 0, none⟩) 1 1) [a]]) (h1 := fun Wx hSw => by (go_simp; exact ⟨_, ⟨_, rfl, rfl⟩, (oneRow hSw a).into 0 rfl⟩)) (h2 := fun v E1 hvE => ?_)
 obtain ⟨q_4_1, rfl, rfl⟩ := hvE; simp only [Act.put, pa]; try dsimp only [List.set]
 refine qa ?_
 refine doneL (h := fun w4 S => ?_)
 replace S : Sep w (valsR (.slice (some ⟨q_4_1, 0, none⟩) 1 1) [a] :: heapR h H :: refR y H :: boxV q3 x0 :: []) w4 := by rw [Hb5_2.out] at S; exact S
 clear Hb5_2 Kb5_2 K5_1 Cb5_2_0
 have e0 : [a] = rowL x0 0 := by rw [Ha_.out]; rfl
 rw [e0] at S
 clear e0
 replace S := Lib.hid S
 go_wp2
 go_loopw [8, 9] (fun s8 s9 wr => ∃ (k : Nat) (ra : Option Addr) (rc : Nat), Hid (k ≤ n + 1) ∧ s8 = .slice ra (k + 1) rc ∧ s9 = .int .i64 k ∧ Sep w ([valsR (.slice ra (k + 1) rc) (rowL x0 k), heapR h H, refR y H, boxV q3 x0] ++ []) wr) (fun _ s9 _ => n + 1 - (intOf s9).toNat)
 case atStart => exact ⟨0, _, _, Lib.hid (Nat.zero_le _), rfl, rfl, S.out⟩
 case round =>
  clear S
  obtain ⟨k, ra, rc, HK, rfl, rfl, S⟩ := hrel
  obtain ⟨F0, h1, _⟩ := S.get 2 rfl
  obtain ⟨rows, sa, sc, R⟩ := h1.cells
  have hrl : rows.length = n := by rw [Hn_.out, R.objs]; simp
  have c0 := R.head
  rw [hrl] at c0
  clear h1 R hrl
  by_cases hlt : k ≤ n
  ·
   have hlti : (k : Int) ≤ n := by omega
   obtain ⟨rx, hv⟩ : ∃ v, v = refV k := ⟨_, rfl⟩
   have hv4 : rx.kind = 4 := by rw [hv]; rfl
   have hvs : rx.s = ⟨#[]⟩ := by rw [hv]; rfl
   have hvn : (k : Int) = rx.n := by rw [hv]; show (k : Int) = ((k % 1000000 : Nat) : Int); have := HNL.out; omega
   have HV := Lib.hid (And.intro hv4 hvs)
   have HVE := Lib.hid hv
   have HVN := Lib.hid hvn
   have HLT := Lib.hid hlt
   clear hlt hv hv4 hvs hvn
   have HRF : Hid (∀ W, Calls Tryz.prog 29 #[.int .i64 k] W fun e W' => e = .returned (.agg #[.int .i64 rx.kind, .int .i64 rx.n, .string rx.s]) ∧ Below W.heap.size W W') := Lib.hid fun W => by
    have hh := lref_v W rx HV.out.1 HV.out.2
    rw [HVN.out]; exact hh
   replace S : Sep w (valsR (.slice ra (k + 1) rc) (rowL x0 k) :: heapR h H :: refR y H :: boxV q3 x0 :: []) wr := S
   replace S : Sep w (valsR (.slice ra (k + 1) rc) (rowL x0 k) :: heapR h H :: refR y H :: boxV q3 x0 :: []) (wr) := by
    refine (show Sep w ([valsR (.slice ra (k + 1) rc) (rowL x0 k), heapR h H, refR y H, boxV q3 x0] ++ []) _ from S).perm ?_
    exact List.Perm.append_right [] (perm_of (l := [valsR (.slice ra (k + 1) rc) (rowL x0 k), heapR h H, refR y H, boxV q3 x0]) [0, 1, 2, 3] (by show (List.range' 0 4).Perm [0, 1, 2, 3]; decide) (by rfl))
   refine named (heapR h H :: refR y H :: boxV q3 x0 :: [] : List Res) fun b9_100 hb9_100 => ?_
   have Hb9_100 := Lib.hid hb9_100
   have Kb9_100 : Hid (∀ W (Q : List Res), Sep w (Q ++ b9_100) W → True) := Lib.hid fun W Q T => by
    rw [hb9_100] at T
    trivial
   have K9_2 : QuietC w b9_100 29 #[.int .i64 k] (.agg #[.int .i64 rx.kind, .int .i64 rx.n, .string rx.s]) := Lib.hid fun W Q T => by
    exact (HRF.out W).mono fun e W' ⟨e1, e2⟩ => ⟨e1, T.later e2⟩
   replace S := Lib.hid S
   clear hb9_100
   go_upto_region 9 with fail
   have S1 : Sep w ([valsR (.slice ra (k + 1) rc) (rowL x0 k)] ++ b9_100) (wr) := by rw [Hb9_100.out]; exact S.out
   clear S
   refine regionL (E := [emptyR, valsR (.slice ra (k + 1) rc) (rowL x0 k)]) (base := b9_100) (Sep.putE S1) ?_
   clear S1
   iterate 2 refine qa ?_
   refine qk K9_2 ?_
   refine allocL 0 rfl (fun q => .slice (some ⟨q, 0, none⟩) 1 1) (.cells #[.int .i64 rx.kind, .int .i64 rx.n, .string rx.s] 24) (h1 := fun Wx => by go_simp) (h2 := fun qQ1 => ?_); simp only [Act.put, pa]; try dsimp only [List.set]
   try simp only [List.set_cons_zero, List.set_cons_succ]
   refine stepL (fun v E1 => ∃ (va_102_2 : Option Addr) (vc_102_2 : Nat), v = .slice va_102_2 (k + 1 + 1) vc_102_2 ∧ E1 = [boxV qQ1 rx, valsR (.slice va_102_2 (k + 1 + 1) vc_102_2) (rowL x0 k ++ [rx])]) (h1 := fun Wx hSw => by (obtain ⟨va, vc, w2, hr, S2⟩ := hSw.appendV 1 rfl (rowL_len x0 k) (ys := [rx]) (seesOneV (hSw.box (b := qQ1) 0 rfl)).vals (k + 1 + 1) rfl (by have := HLT.out; have := HNL.out; omega); exact symAppend _ _ _ _ rfl _ _ rfl rfl hr ⟨_, ⟨va, vc, rfl, rfl⟩, S2⟩)) (h2 := fun v E1 hvE => ?_)
   obtain ⟨va_102_2, vc_102_2, rfl, rfl⟩ := hvE; simp only [Act.put, pa]; try dsimp only [List.set]
   refine qa ?_
   refine doneL (h := fun w102 S => ?_)
   replace S : Sep w (boxV qQ1 rx :: valsR (.slice va_102_2 (k + 1 + 1) vc_102_2) (rowL x0 k ++ [rx]) :: heapR h H :: refR y H :: boxV q3 x0 :: []) w102 := by rw [Hb9_100.out] at S; exact S
   clear Hb9_100 Kb9_100 K9_2
   clear c0 hlti
   replace S : Sep w ([boxV qQ1 rx, valsR (.slice va_102_2 (k + 1 + 1) vc_102_2) (rowL x0 k ++ [rx]), heapR h H, refR y H, boxV q3 x0] ++ []) (w102) := by
    refine (show Sep w ([boxV qQ1 rx, valsR (.slice va_102_2 (k + 1 + 1) vc_102_2) (rowL x0 k ++ [rx]), heapR h H, refR y H, boxV q3 x0] ++ []) _ from S).perm ?_
    exact List.Perm.append_right [] (perm_of (l := [boxV qQ1 rx, valsR (.slice va_102_2 (k + 1 + 1) vc_102_2) (rowL x0 k ++ [rx]), heapR h H, refR y H, boxV q3 x0]) [0, 1, 2, 3, 4] (by show (List.range' 0 5).Perm [0, 1, 2, 3, 4]; decide) (by rfl))
   iterate 1 replace S := S.tail
   replace S : Sep w (valsR (.slice va_102_2 (k + 1 + 1) vc_102_2) (rowL x0 k ++ [rx]) :: heapR h H :: refR y H :: boxV q3 x0 :: []) (w102) := S
   have e2 : rowL x0 k ++ [rx] = rowL x0 (k + 1) := by rw [HVE.out]; exact rowL_next x0 k
   rw [e2] at S
   have hi1 : IntKind.i64.wrap ((k : Int) + 1) = (k : Int) + 1 := IntWalk.i64_in _ (by have := HLT.out; have := HNL.out; omega)
   replace S := Lib.hid S
   clear e2
   go_wp2
   exact ⟨⟨k + 1, _, _, Lib.hid (by have := HLT.out; omega), rfl, by go_num, S.out⟩, by have := HLT.out; simp [intOf]; omega⟩
  ·
   obtain rfl : k = n + 1 := by have := HK.out; omega
   have hno : ¬ ((n + 1 : Nat) : Int) ≤ n := by omega
   obtain ⟨L, hL⟩ : ∃ L, L = rowL x0 (n + 1) := ⟨_, rfl⟩
   rw [← hL] at S
   have hLl : L.length = n + 2 := by rw [hL, rowL_len]
   have HLL := Lib.hid hLl
   have HLS : Hid (∀ v ∈ L, v.s.size ≤ 8) := Lib.hid (by rw [hL]; exact rowL_short x0 (n + 1))
   obtain ⟨g, rfl⟩ := S.rowAt 0 rfl (by omega)
   clear hlt hL hLl
   rw [show n + 1 + 1 = L.length from HLL.out.symm] at S ⊢
   replace S : Sep w (valsR (.slice (some ⟨g, 0, none⟩) L.length rc) L :: heapR h H :: refR y H :: boxV q3 x0 :: []) wr := S
   replace S := Lib.hid S
   go_wp2
   go_loopw [10] (fun s10 wr => ∃ (j : Nat), Hid (j ≤ L.length) ∧ s10 = .int .i64 j ∧ Sep w (valsR (.slice (some ⟨g, 0, none⟩) L.length rc) L :: heapR h H :: refR y H :: boxV q3 x0 :: []) wr) (fun s10 _ => L.length - (intOf s10).toNat)
   case atStart => exact ⟨0, Lib.hid (Nat.zero_le _), rfl, S.out⟩
   case round =>
    clear S c0 hno
    obtain ⟨j, HJ, rfl, S⟩ := hrel
    have hmi : (L.length : Int) ≤ 9223372036854775807 := by have := HLL.out; have := HNL.out; omega
    by_cases hlt : j < L.length
    ·
     have hlti : (j : Int) < L.length := by omega
     obtain ⟨v, hv⟩ : ∃ v, L[j]? = some v := ⟨L[j]'(by omega), by simp⟩
     have HVS : Hid (v.s.size ≤ 8) := Lib.hid (HLS.out v (List.mem_of_getElem? hv))
     have HV := Lib.hid hv
     have HLT := Lib.hid hlt
     clear hv hlt
     obtain ⟨s, nm, hR⟩ := reprV_parts (H.reprM v)
     have HR := Lib.hid hR
     obtain ⟨s2, nm2, hR2⟩ := H.strV_parts v
     have HR2 := Lib.hid hR2
     clear hR hR2
     replace S : Sep w (valsR (.slice (some ⟨g, 0, none⟩) L.length rc) L :: heapR h H :: refR y H :: boxV q3 x0 :: []) wr := S
     refine named (valsR (.slice (some ⟨g, 0, none⟩) L.length rc) L :: heapR h H :: refR y H :: boxV q3 x0 :: [] : List Res) fun b13_300 hb13_300 => ?_
     have Hb13_300 := Lib.hid hb13_300
     have Kb13_300 : Hid (∀ W (Q : List Res), Sep w (Q ++ b13_300) W → True) := Lib.hid fun W Q T => by
      rw [hb13_300] at T
      trivial
     have K13_5 : QuietC w b13_300 30 #[hpV h, agV v] (.tuple #[.string s, excN nm]) := Lib.hid fun W Q T => by
      rw [Hb13_300.out] at T ⊢
      exact (by have hh := repr_s HF.out (by decide) HSH.out T (Q.length + 1) (atR rfl) v HVS.out; rw [HR.out] at hh; exact hh)
     have R13_4 : Hid (∀ W (Q : List Res), Sep w (Q ++ b13_300) W → W.cell? ⟨g, j * 3, none⟩ = some (.int .i64 v.kind) ∧ W.cell? ⟨g, j * 3 + 1, none⟩ = some (.int .i64 v.n) ∧ W.cell? ⟨g, j * 3 + 2, none⟩ = some (.string v.s)) := Lib.hid fun W Q T => by rw [Hb13_300.out] at T; have hh := sepThree T (Q.length + 0) (atR rfl) HV.out; rw [Nat.zero_add] at hh; exact hh
     replace S := Lib.hid S
     clear hb13_300
     go_upto_region 13 with fail
     have S1 : Sep w ([] ++ b13_300) (wr) := by rw [Hb13_300.out]; exact S.out
     clear S
     refine regionL (E := [emptyR]) (base := b13_300) (Sep.putE S1) ?_
     clear S1
     iterate 4 refine qa ?_
     refine qc R13_4 ?_
     refine qk K13_5 ?_
     iterate 3 refine qa ?_
     refine allocL 0 rfl (fun q => .pointer (some ⟨q, 0, none⟩)) (.cells #[.string ⟨#[]⟩, .int .i64 0, .int .i64 0, .string ⟨#[]⟩, .bool false] 33) (h1 := fun Wx => by go_simp) (h2 := fun qe131 => ?_); simp only [Act.put, pa]; try dsimp only [List.set]
     try simp only [List.set_cons_zero, List.set_cons_succ]
     refine qa ?_
     refine qd undef [boxN qe131 nm] (h1 := fun Wx hSw => by (have hz := hSw.box (b := qe131) (o := objE) 0 rfl; refine useZ5 hz fun z0 z1 z2 z3 z4 y0 y1 y2 y3 y4 => ?_; go_simp; exact ⟨rfl, hSw.set5 0 rfl (.string nm) (.int .i64 0) (.int .i64 0) (.string ⟨#[]⟩) (.bool false)⟩)) (h2 := ?_)
     refine doneL (h := fun w302 S => ?_)
     replace S : Sep w (boxN qe131 nm :: valsR (.slice (some ⟨g, 0, none⟩) L.length rc) L :: heapR h H :: refR y H :: boxV q3 x0 :: []) w302 := by rw [Hb13_300.out] at S; exact S
     clear Hb13_300 Kb13_300 K13_5 R13_4
     refine named (boxN qe131 nm :: valsR (.slice (some ⟨g, 0, none⟩) L.length rc) L :: heapR h H :: refR y H :: boxV q3 x0 :: [] : List Res) fun b14_302 hb14_302 => ?_
     have Hb14_302 := Lib.hid hb14_302
     have Kb14_302 : Hid (∀ W (Q : List Res), Sep w (Q ++ b14_302) W → True) := Lib.hid fun W Q T => by
      rw [hb14_302] at T
      trivial
     have K14_5 : QuietC w b14_302 31 #[.pointer (some ⟨y, 0, none⟩), agV v] (.tuple #[.string s, excN nm]) := Lib.hid fun W Q T => by
      rw [Hb14_302.out] at T ⊢
      exact (by have hh := rrepr_s HF.out (by decide) HSH.out T (Q.length + 3) (atR rfl) v HVS.out; rw [HR.out] at hh; exact hh)
     have R14_4 : Hid (∀ W (Q : List Res), Sep w (Q ++ b14_302) W → W.cell? ⟨g, j * 3, none⟩ = some (.int .i64 v.kind) ∧ W.cell? ⟨g, j * 3 + 1, none⟩ = some (.int .i64 v.n) ∧ W.cell? ⟨g, j * 3 + 2, none⟩ = some (.string v.s)) := Lib.hid fun W Q T => by rw [Hb14_302.out] at T; have hh := sepThree T (Q.length + 1) (atR rfl) HV.out; rw [Nat.zero_add] at hh; exact hh
     replace S := Lib.hid S
     clear hb14_302
     go_upto_region 14 with fail
     have S1 : Sep w ([] ++ b14_302) (w302) := by rw [Hb14_302.out]; exact S.out
     clear S
     refine regionL (E := [emptyR]) (base := b14_302) (Sep.putE S1) ?_
     clear S1
     iterate 4 refine qa ?_
     refine qc R14_4 ?_
     refine qk K14_5 ?_
     iterate 3 refine qa ?_
     refine allocL 0 rfl (fun q => .pointer (some ⟨q, 0, none⟩)) (.cells #[.string ⟨#[]⟩, .int .i64 0, .int .i64 0, .string ⟨#[]⟩, .bool false] 33) (h1 := fun Wx => by go_simp) (h2 := fun qe141 => ?_); simp only [Act.put, pa]; try dsimp only [List.set]
     try simp only [List.set_cons_zero, List.set_cons_succ]
     refine qa ?_
     refine qd undef [boxN qe141 nm] (h1 := fun Wx hSw => by (have hz := hSw.box (b := qe141) (o := objE) 0 rfl; refine useZ5 hz fun z0 z1 z2 z3 z4 y0 y1 y2 y3 y4 => ?_; go_simp; exact ⟨rfl, hSw.set5 0 rfl (.string nm) (.int .i64 0) (.int .i64 0) (.string ⟨#[]⟩) (.bool false)⟩)) (h2 := ?_)
     refine doneL (h := fun w304 S => ?_)
     replace S : Sep w (boxN qe141 nm :: boxN qe131 nm :: valsR (.slice (some ⟨g, 0, none⟩) L.length rc) L :: heapR h H :: refR y H :: boxV q3 x0 :: []) w304 := by rw [Hb14_302.out] at S; exact S
     clear Hb14_302 Kb14_302 K14_5 R14_4
     refine named (boxN qe141 nm :: boxN qe131 nm :: valsR (.slice (some ⟨g, 0, none⟩) L.length rc) L :: heapR h H :: refR y H :: boxV q3 x0 :: [] : List Res) fun b15_304 hb15_304 => ?_
     have Hb15_304 := Lib.hid hb15_304
     have Kb15_304 : Hid (∀ W (Q : List Res), Sep w (Q ++ b15_304) W → True) := Lib.hid fun W Q T => by
      rw [hb15_304] at T
      trivial
     have K15_5 : QuietC w b15_304 32 #[hpV h, agV v] (.tuple #[.string s2, excN nm2]) := Lib.hid fun W Q T => by
      rw [Hb15_304.out] at T ⊢
      exact (by have hh := str_s HF.out (by decide) HSH.out T (Q.length + 3) (atR rfl) v HVS.out; rw [HR2.out] at hh; exact hh)
     have R15_4 : Hid (∀ W (Q : List Res), Sep w (Q ++ b15_304) W → W.cell? ⟨g, j * 3, none⟩ = some (.int .i64 v.kind) ∧ W.cell? ⟨g, j * 3 + 1, none⟩ = some (.int .i64 v.n) ∧ W.cell? ⟨g, j * 3 + 2, none⟩ = some (.string v.s)) := Lib.hid fun W Q T => by rw [Hb15_304.out] at T; have hh := sepThree T (Q.length + 2) (atR rfl) HV.out; rw [Nat.zero_add] at hh; exact hh
     replace S := Lib.hid S
     clear hb15_304
     go_upto_region 15 with fail
     have S1 : Sep w ([] ++ b15_304) (w304) := by rw [Hb15_304.out]; exact S.out
     clear S
     refine regionL (E := [emptyR]) (base := b15_304) (Sep.putE S1) ?_
     clear S1
     iterate 4 refine qa ?_
     refine qc R15_4 ?_
     refine qk K15_5 ?_
     iterate 3 refine qa ?_
     refine allocL 0 rfl (fun q => .pointer (some ⟨q, 0, none⟩)) (.cells #[.string ⟨#[]⟩, .int .i64 0, .int .i64 0, .string ⟨#[]⟩, .bool false] 33) (h1 := fun Wx => by go_simp) (h2 := fun qe151 => ?_); simp only [Act.put, pa]; try dsimp only [List.set]
     try simp only [List.set_cons_zero, List.set_cons_succ]
     refine qa ?_
     refine qd undef [boxN qe151 nm2] (h1 := fun Wx hSw => by (have hz := hSw.box (b := qe151) (o := objE) 0 rfl; refine useZ5 hz fun z0 z1 z2 z3 z4 y0 y1 y2 y3 y4 => ?_; go_simp; exact ⟨rfl, hSw.set5 0 rfl (.string nm2) (.int .i64 0) (.int .i64 0) (.string ⟨#[]⟩) (.bool false)⟩)) (h2 := ?_)
     refine doneL (h := fun w306 S => ?_)
     replace S : Sep w (boxN qe151 nm2 :: boxN qe141 nm :: boxN qe131 nm :: valsR (.slice (some ⟨g, 0, none⟩) L.length rc) L :: heapR h H :: refR y H :: boxV q3 x0 :: []) w306 := by rw [Hb15_304.out] at S; exact S
     clear Hb15_304 Kb15_304 K15_5 R15_4
     refine named (boxN qe151 nm2 :: boxN qe141 nm :: boxN qe131 nm :: valsR (.slice (some ⟨g, 0, none⟩) L.length rc) L :: heapR h H :: refR y H :: boxV q3 x0 :: [] : List Res) fun b16_306 hb16_306 => ?_
     have Hb16_306 := Lib.hid hb16_306
     have Kb16_306 : Hid (∀ W (Q : List Res), Sep w (Q ++ b16_306) W → True) := Lib.hid fun W Q T => by
      rw [hb16_306] at T
      trivial
     have K16_5 : QuietC w b16_306 33 #[.pointer (some ⟨y, 0, none⟩), agV v] (.tuple #[.string s2, excN nm2]) := Lib.hid fun W Q T => by
      rw [Hb16_306.out] at T ⊢
      exact (by have hh := rstr_s HF.out (by decide) HSH.out T (Q.length + 5) (atR rfl) v HVS.out; rw [HR2.out] at hh; exact hh)
     have R16_4 : Hid (∀ W (Q : List Res), Sep w (Q ++ b16_306) W → W.cell? ⟨g, j * 3, none⟩ = some (.int .i64 v.kind) ∧ W.cell? ⟨g, j * 3 + 1, none⟩ = some (.int .i64 v.n) ∧ W.cell? ⟨g, j * 3 + 2, none⟩ = some (.string v.s)) := Lib.hid fun W Q T => by rw [Hb16_306.out] at T; have hh := sepThree T (Q.length + 3) (atR rfl) HV.out; rw [Nat.zero_add] at hh; exact hh
     replace S := Lib.hid S
     clear hb16_306
     go_upto_region 16 with fail
     have S1 : Sep w ([] ++ b16_306) (w306) := by rw [Hb16_306.out]; exact S.out
     clear S
     refine regionL (E := [emptyR]) (base := b16_306) (Sep.putE S1) ?_
     clear S1
     iterate 4 refine qa ?_
     refine qc R16_4 ?_
     refine qk K16_5 ?_
     iterate 3 refine qa ?_
     refine allocL 0 rfl (fun q => .pointer (some ⟨q, 0, none⟩)) (.cells #[.string ⟨#[]⟩, .int .i64 0, .int .i64 0, .string ⟨#[]⟩, .bool false] 33) (h1 := fun Wx => by go_simp) (h2 := fun qe161 => ?_); simp only [Act.put, pa]; try dsimp only [List.set]
     try simp only [List.set_cons_zero, List.set_cons_succ]
     refine qa ?_
     refine qd undef [boxN qe161 nm2] (h1 := fun Wx hSw => by (have hz := hSw.box (b := qe161) (o := objE) 0 rfl; refine useZ5 hz fun z0 z1 z2 z3 z4 y0 y1 y2 y3 y4 => ?_; go_simp; exact ⟨rfl, hSw.set5 0 rfl (.string nm2) (.int .i64 0) (.int .i64 0) (.string ⟨#[]⟩) (.bool false)⟩)) (h2 := ?_)
     refine doneL (h := fun w308 S => ?_)
     replace S : Sep w (boxN qe161 nm2 :: boxN qe151 nm2 :: boxN qe141 nm :: boxN qe131 nm :: valsR (.slice (some ⟨g, 0, none⟩) L.length rc) L :: heapR h H :: refR y H :: boxV q3 x0 :: []) w308 := by rw [Hb16_306.out] at S; exact S
     clear Hb16_306 Kb16_306 K16_5 R16_4
     refine named (boxN qe161 nm2 :: boxN qe151 nm2 :: boxN qe141 nm :: boxN qe131 nm :: valsR (.slice (some ⟨g, 0, none⟩) L.length rc) L :: heapR h H :: refR y H :: boxV q3 x0 :: [] : List Res) fun b17_308 hb17_308 => ?_
     have Hb17_308 := Lib.hid hb17_308
     have Kb17_308 : Hid (∀ W (Q : List Res), Sep w (Q ++ b17_308) W → True) := Lib.hid fun W Q T => by
      rw [hb17_308] at T
      trivial
     have Cb17_308_0 := baseC5 (w := w) (b := qe131) hb17_308 3 rfl
     have Cb17_308_1 := baseC5 (w := w) (b := qe141) hb17_308 2 rfl
     have Cb17_308_2 := baseC5 (w := w) (b := qe151) hb17_308 1 rfl
     have Cb17_308_3 := baseC5 (w := w) (b := qe161) hb17_308 0 rfl
     replace S := Lib.hid S
     clear hb17_308
     go_upto_region 17 with fail
     have S1 : Sep w ([] ++ b17_308) (w308) := by rw [Hb17_308.out]; exact S.out
     clear S
     refine regionL (E := []) (base := b17_308) S1 ?_
     clear S1
     iterate 4 refine qa ?_
     refine qc Cb17_308_0 ?_
     refine qc Cb17_308_1 ?_
     iterate 8 refine qa ?_
     refine qc Cb17_308_2 ?_
     refine qc Cb17_308_3 ?_
     iterate 2 refine qa ?_
     refine doneL (h := fun w310 S => ?_)
     replace S : Sep w (boxN qe161 nm2 :: boxN qe151 nm2 :: boxN qe141 nm :: boxN qe131 nm :: valsR (.slice (some ⟨g, 0, none⟩) L.length rc) L :: heapR h H :: refR y H :: boxV q3 x0 :: []) w310 := by rw [Hb17_308.out] at S; exact S
     clear Hb17_308 Kb17_308 Cb17_308_0 Cb17_308_1 Cb17_308_2 Cb17_308_3
     replace S : Sep w ([boxN qe161 nm2, boxN qe151 nm2, boxN qe141 nm, boxN qe131 nm, valsR (.slice (some ⟨g, 0, none⟩) L.length rc) L, heapR h H, refR y H, boxV q3 x0] ++ []) (w310) := by
      refine (show Sep w ([boxN qe161 nm2, boxN qe151 nm2, boxN qe141 nm, boxN qe131 nm, valsR (.slice (some ⟨g, 0, none⟩) L.length rc) L, heapR h H, refR y H, boxV q3 x0] ++ []) _ from S).perm ?_
      exact List.Perm.append_right [] (perm_of (l := [boxN qe161 nm2, boxN qe151 nm2, boxN qe141 nm, boxN qe131 nm, valsR (.slice (some ⟨g, 0, none⟩) L.length rc) L, heapR h H, refR y H, boxV q3 x0]) [0, 1, 2, 3, 4, 5, 6, 7] (by show (List.range' 0 8).Perm [0, 1, 2, 3, 4, 5, 6, 7]; decide) (by rfl))
     iterate 4 replace S := S.tail
     replace S : Sep w (valsR (.slice (some ⟨g, 0, none⟩) L.length rc) L :: heapR h H :: refR y H :: boxV q3 x0 :: []) (w310) := S
     have hi1 : IntKind.i64.wrap ((j : Int) + 1) = (j : Int) + 1 := IntWalk.i64_in _ (by have := HLT.out; have := HLL.out; have := HNL.out; omega)
     replace S := Lib.hid S
     go_wp2
     exact ⟨⟨j + 1, Lib.hid HLT.out, by go_num, S.out⟩, by have := HLT.out; simp [intOf]; omega⟩
    ·
     obtain rfl : j = L.length := by have := HJ.out; omega
     have hno2 : ¬ (L.length : Int) < L.length := by omega
     clear hlt
     replace S : Sep w (valsR (.slice (some ⟨g, 0, none⟩) L.length rc) L :: heapR h H :: refR y H :: boxV q3 x0 :: []) wr := S
     refine named (valsR (.slice (some ⟨g, 0, none⟩) L.length rc) L :: heapR h H :: refR y H :: boxV q3 x0 :: [] : List Res) fun b19_400 hb19_400 => ?_
     have Hb19_400 := Lib.hid hb19_400
     have Kb19_400 : Hid (∀ W (Q : List Res), Sep w (Q ++ b19_400) W → True) := Lib.hid fun W Q T => by
      rw [hb19_400] at T
      trivial
     have K19_2 : QuietC w b19_400 16 #[hpV h, .pointer (some ⟨y, 0, none⟩)] (.bool true) := Lib.hid fun W Q T => by
      rw [Hb19_400.out] at T ⊢
      exact alike16_at T (Q.length + 1) (Q.length + 2) (atR rfl) (atR rfl) (by omega) HF.out (by decide)
     replace S := Lib.hid S
     clear hb19_400
     go_upto_region 19 with fail
     have S1 : Sep w ([] ++ b19_400) (wr) := by rw [Hb19_400.out]; exact S.out
     clear S
     refine regionL (E := []) (base := b19_400) S1 ?_
     clear S1
     iterate 2 refine qa ?_
     refine qk K19_2 ?_
     refine qa ?_
     refine doneL (h := fun w402 S => ?_)
     replace S : Sep w (valsR (.slice (some ⟨g, 0, none⟩) L.length rc) L :: heapR h H :: refR y H :: boxV q3 x0 :: []) w402 := by rw [Hb19_400.out] at S; exact S
     clear Hb19_400 Kb19_400 K19_2
     replace S := Lib.hid S.below
     go_wp2
     go_ret
     exact ⟨rfl, by rw [← HQ3.out]; exact S.out⟩
theorem lifted (os : Os) (started : os.Started) (H : Type) (enc : TypeId × Value → H) :
  ReturnsInHanded {} Tryz.checked os 6 .any (Rows.operateReprSpec.pre6 enc Tryz.prog Tryz.f6 Rows.operateReprRow.domain false) (Rows.operateReprSpec.post enc Tryz.prog Tryz.f6 false true false false) := by
 refine law_lift (C := Tryz.checked) own started (by kernel_rfl) Tryz.func6
  (ChangeSpec.witness6 (enc := enc) (C := Tryz.checked) false ⟨#[], #[.slice none 0 0, .agg #[.int .i64 0, .int .i64 0, .string ⟨#[]⟩]], []⟩ 8 (by kernel_rfl) (by kernel_rfl) (by kernel_rfl) (by kernel_rfl))
  (by kernel_rfl) (by kernel_rfl) rfl (fun ds h => by
   match ds, h with
   | [d1, d2], _ => exact ⟨rfl, rfl, rfl⟩) rfl Tryz.underlying4 ?_
 intro W base args ds ps hval hA hlt hwt hsh
 rw [Tryz.params6] at hA hval
 obtain ⟨v0, vs0, d0, ds0, p0, q0, hargs, rfl, rfl, h0, r0⟩ := trodAll_cons hA
 obtain ⟨v1, vs1, d1, ds1, p1, q1, rfl, rfl, rfl, h1, r1⟩ := trodAll_cons r0
 obtain ⟨rfl, rfl, rfl⟩ := trodAll_nil r1
 obtain rfl : args = #[v0, v1] := by cases args; simp_all
 obtain ⟨x0, len0, cap0, rfl⟩ := okWide_slice Tryz.underlying22 (hval 0 22 v0 rfl rfl)
 obtain ⟨fuel0, hf0⟩ := h0
 obtain ⟨l0, s0⟩ := open_objs (v := .slice x0 len0 cap0) hf0
 obtain ⟨cs1, rfl, hsz1⟩ := okWide_struct Tryz.underlying24 (hval 1 24 v1 rfl rfl)
 obtain ⟨fuel1, hf1⟩ := h1
 obtain ⟨x1, e1⟩ := val_of_trod (cs := cs1.toList) hf1
 obtain rfl : cs1 = x1.cells.toArray := by rw [← e1]
 -- WALK
 exact walk W _ l0 s0 x1
theorem proved : Rows.OperateReprSaid :=
 OpenClaim.holds_of_wide 6 Tryz.f6 rfl rfl rfl rfl rfl rfl rfl ⟨rfl, rfl, rfl, rfl, rfl⟩ rfl rfl rfl rfl rfl (by kernel_rfl) Tryz.func6 (by kernel_rfl)
  (of_decide_eq_true (by kernel_rfl)) (by unfold Func.isWrapper; first | (rw [if_pos (by decide +kernel)]; kernel_rfl) | (rw [if_neg (by decide +kernel)]; exact ⟨rfl, rfl⟩))
  (fun os started H enc _ => lifted os started H enc)
#print axioms proved
end Go.Proofs.YtijlebhoapdfnaaGreat.operateRepr
