/- ch 16: the reference's numbers: texts. -/
import Derived.Test.YtijlebhoapdfnaaGreatRNumC
import Derived.Test.YtijlebhoapdfnaaGreatNumT
import Derived.Laws.BytesString
set_option maxRecDepth 100000
set_option maxHeartbeats 12800000
namespace Go.Proofs.YtijlebhoapdfnaaGreat
set_option linter.unusedSimpArgs false
open Go.RowKit
set_option linter.unusedVariables false
attribute [local irreducible] wpSeqS wpAnyS wpPreS
/-- The digits told so far, and what is left. -/
def DecAt (M m : Nat) (tl : List UInt8) : Prop := m = M / 10 ^ tl.length ∧ (tl = [] ∨ digitsU M = if m = 0 then tl else digitsU m ++ tl)
theorem dec_start (M : Nat) : DecAt M M [] := ⟨by simp, .inl rfl⟩
theorem dec_step {M m : Nat} {tl : List UInt8} (h : DecAt M m tl) (hg : tl = [] ∨ 0 < m) : DecAt M (m / 10) ((48 + m % 10).toUInt8 :: tl) := by
 obtain ⟨h1, h2⟩ := h
 refine ⟨by rw [h1, Nat.div_div_eq_div_mul, List.length_cons, Nat.pow_succ], .inr ?_⟩
 have hd : digitsU m = if m / 10 = 0 then [(48 + m % 10).toUInt8] else digitsU (m / 10) ++ [(48 + m % 10).toUInt8] := by
  rw [digitsU]
  by_cases h : m < 10
  ·
   rw [if_pos h, if_pos (Nat.div_eq_of_lt h), Nat.mod_eq_of_lt h]
  ·
   rw [if_neg h, if_neg (by omega)]
 have hm : digitsU M = digitsU m ++ tl := by
  rcases h2 with h2 | h2
  ·
   subst h2; simp at h1; subst h1; simp
  ·
   rcases hg with hg | hg
   ·
    subst hg; simp at h1; subst h1; simp
   ·
    rw [h2, if_neg (by omega)]
 rw [hm, hd]
 split <;> simp
theorem dec_done {M : Nat} {tl : List UInt8} (h : DecAt M 0 tl) (hn : tl ≠ []) : tl = digitsU M := by
 rcases h.2 with h2 | h2
 ·
  exact absurd h2 hn
 ·
  rw [h2, if_pos rfl]
theorem dec_len {M m : Nat} {tl : List UInt8} (h : DecAt M m tl) (hM : M < 10 ^ 20) (hg : tl = [] ∨ 0 < m) : tl.length < 20 := by
 rcases hg with hg | hg
 ·
  subst hg; simp
 ·
  rcases Nat.lt_or_ge tl.length 20 with h1 | h1
  ·
   exact h1
  ·
   have := Nat.pow_le_pow_right (n := 10) (by decide) h1
   have h2 := h.1
   rw [Nat.div_eq_of_lt (by omega)] at h2
   omega
def strM (v : Value) : Nat := match v with | .string s => 64 - s.size | _ => 0
theorem strM_s (s : ByteArray) : strM (.string s) = 64 - s.size := rfl
theorem load_one {P : Program} {W : World} {q c : Nat} (hc : W.cell? ⟨q, 0, none⟩ = some (.int .u8 (c : Int))) : (loadCells ⟨q, 0, none⟩ 1).run P W = .ok #[.int .u8 (c : Int)] W := by
 exact run_loadCells_list W ⟨q, 0, none⟩ [.int .u8 (c : Int)] fun j v h => by
  match j, h with
  | 0, h => simp at h; subst h; exact hc
  | j + 1, h => simp at h
theorem conv_one {W : World} {q c : Nat} (hc : W.cell? ⟨q, 0, none⟩ = some (.int .u8 (c : Int))) : (convert 140 9 (.slice (some ⟨q, 0, none⟩) 1 1)).run Tryz.prog W = .ok (.string ⟨#[c.toUInt8]⟩) W := by
 rw [run_convert_bytes_string W _ _ 5 _ _ _ Tryz.underlying140 Tryz.underlying5 Tryz.underlying9, run_bytesToString W ⟨q, 0, none⟩ 1 1 [(c : Int)] (load_one hc)]
 rfl
section
variable {w W : World} {Rs : List Res}
theorem rdigit0_ok (W : World) (sv : Value) (r : Nat) (hr : r < 65536) (hs : SeesD W sv (digs r)) : Calls Tryz.prog 180 #[sv, .int .i64 0] W fun e W' => e = .returned (.int .i64 (r : Int)) ∧ W' = W := by
 have e : digD (digs r) 0 = r := by
  by_cases h : r = 0
  ·
   subst h; rw [digs_zero]; rfl
  ·
   rw [digs_pos h]; show r % 65536 = r; omega
 have hh := rdigit_ok W sv (digs r) hs 0
 rw [e] at hh
 exact hh
theorem fd_ten (m : Nat) : fdP (m : Int) 10 = (((m / 10 : Nat) : Int), ((m % 10 : Nat) : Int)) := by
 have h1 : (m : Int).tmod 10 = ((m % 10 : Nat) : Int) := (Int.ofNat_tmod m 10).symm
 have h2 : (m : Int).tdiv 10 = ((m / 10 : Nat) : Int) := (Int.ofNat_tdiv m 10).symm
 unfold fdP
 rw [h1, h2]
 have h3 : decide (((m % 10 : Nat) : Int) < 0) = false := decide_eq_false (by omega)
 rw [h3]
 simp
theorem rtens_at (S : Sep w Rs W) (m : Nat) (sa sb : Value) (ha : SeesD W sa (digs m)) (hb : SeesD W sb (digs 10)) (hm : m < 10 ^ 20) {q r : Nat} (hq : m / 10 = q) (hr : m % 10 = r) : Calls Tryz.prog 140 #[.agg #[.bool false, sa], .agg #[.bool false, sb]] W fun e W' => ∃ qA qC ra rc, e = .returned (.tuple #[.agg #[.bool false, .slice qA (digs q).length qC], .agg #[.bool false, .slice ra (digs r).length rc]]) ∧ Sep w (dR (.slice qA (digs q).length qC) (digs q) :: dR (.slice ra (digs r).length rc) (digs r) :: Rs) W' := by
 subst hq hr
 have hp : (10 : Nat) ^ 20 < 65536 ^ 50 := by decide
 have hh := rparts_ok (Sep.start (Below.refl W.heap.size W)) (m : Int) 10 (by decide) sa sb ha hb (show m < _ by omega) (by decide)
 rw [fd_ten] at hh
 rw [decide_eq_false (show ¬ (m : Int) < 0 by omega), decide_eq_false (show ¬ (10 : Int) < 0 by decide)] at hh
 refine hh.mono ?_
 rintro e W' ⟨qA, qC, ra, rc, rfl, T⟩
 refine ⟨qA, qC, ra, rc, ?_, S.join T⟩
 simp only []
 rw [decide_eq_false (show ¬ ((m / 10 : Nat) : Int) < 0 by omega), decide_eq_false (show ¬ ((m % 10 : Nat) : Int) < 0 by omega)]
 rfl
theorem rtext_ok (S : Sep w Rs W) (n : Int) (hn : okI n) : Calls Tryz.prog 200 #[.int .i64 n] W fun e W' => e = .returned (.string ⟨(textN n).toArray⟩) ∧ Sep w Rs W' := by
 obtain ⟨h1, h2⟩ := okI_rng hn
 obtain ⟨M, hM⟩ : ∃ M, n.natAbs = M := ⟨_, rfl⟩
 obtain ⟨bn, hbn⟩ : ∃ q, decide (n < 0) = q := ⟨_, rfl⟩
 have hM20 : M < 10 ^ 20 := by rw [← hM]; omega
 have htx : textN n = (if bn = true then [45] else []) ++ digitsU M := by unfold textN; rw [hM, ← hbn]; simp
 rw [htx]
 clear htx h1 h2
 have XhM := Lib.hid hM
 have Xhbn := Lib.hid hbn
 have XhM20 := Lib.hid hM20
 have Xhn := Lib.hid hn
 clear hM hbn hM20 hn
 have HML : Hid ((digs M).length ≤ 50) := Lib.hid (digs_le (Nat.lt_trans XhM20.out (by decide)))
 obtain ⟨bA, hbs⟩ : ∃ l, l = Rs := ⟨_, rfl⟩
 have HBS := Lib.hid hbs
 replace S : Sep w ([] ++ bA) W := by rw [hbs]; exact S
 clear hbs
 replace S := Lib.hid S
 go_enter Tryz.func200, Tryz.ntmps200
 go_upto_region 1 with fail
 refine regionL (E := [emptyR, emptyR]) (base := bA) (Sep.putE (Sep.putE S.out)) ?_
 clear S
 refine qa ?_
 refine stepL (fun v E1 => ∃ (va_1_1 : Option Addr) (vc_1_1 : Nat), v = .agg #[.bool bn, .slice va_1_1 (digs M).length vc_1_1] ∧ E1 = [emptyR, dR (.slice va_1_1 (digs M).length vc_1_1) (digs M)]) (h1 := fun Wx hSw => by (go_simp; refine symCallN ?_; have hh := rof8_at hSw n Xhn.out; rw [XhM.out, Xhbn.out] at hh; refine hh.mono ?_; rintro e W' ⟨va, vc, e1, e2⟩; refine ⟨_, _, e1, ⟨va, vc, rfl, rfl⟩, ?_⟩; exact Sep.into e2 1 rfl)) (h2 := fun v E1 hvE => ?_)
 obtain ⟨va_1_1, vc_1_1, rfl, rfl⟩ := hvE; simp only [Act.put, pa]; try dsimp only [List.set]
 refine allocL 0 rfl (fun q => .pointer (some ⟨q, 0, none⟩)) (.cells #[.bool false, .slice none 0 0] 167) (h1 := fun Wx => by go_simp) (h2 := fun qq32 => ?_); simp only [Act.put, pa]; try dsimp only [List.set]
 try simp only [List.set_cons_zero, List.set_cons_succ]
 refine qd undef [boxR qq32 (.cells #[.bool bn, .slice va_1_1 (digs M).length vc_1_1] 167), dR (.slice va_1_1 (digs M).length vc_1_1) (digs M)] (h1 := fun Wx hSw => by (have hz := hSw.box (b := qq32) (o := .cells #[.bool false, .slice none 0 0] 167) 0 rfl; have z0 := cellAt hz 0 (v := .bool false) rfl; have y0 := frozenAt hz 0; have z1 := cellAt hz 1 (v := .slice none 0 0) rfl; have y1 := frozenAt hz 1; go_simp; exact ⟨rfl, (Sep.setBox (cs := #[.bool bn, .slice none 0 0]) (t := 167) (Sep.setBox (cs := #[.bool false, .slice none 0 0]) (t := 167) hSw 0 rfl 0 (.bool bn)) 0 rfl 1 (.slice va_1_1 (digs M).length vc_1_1))⟩)) (h2 := ?_)
 refine doneL (h := fun w1 S => ?_)
 replace S := Lib.hid S
 go_upto_region 2 with fail
 refine regionL (E := [emptyR, emptyR, boxR qq32 (.cells #[.bool bn, .slice va_1_1 (digs M).length vc_1_1] 167), dR (.slice va_1_1 (digs M).length vc_1_1) (digs M)]) (base := bA) (Sep.putE (Sep.putE S.out)) ?_
 clear S
 refine stepL (fun v E1 => ∃ (va_2_1 : Option Addr) (vc_2_1 : Nat), v = .agg #[.bool false, .slice va_2_1 (digs 10).length vc_2_1] ∧ E1 = [emptyR, dR (.slice va_2_1 (digs 10).length vc_2_1) (digs 10), boxR qq32 (.cells #[.bool bn, .slice va_1_1 (digs M).length vc_1_1] 167), dR (.slice va_1_1 (digs M).length vc_1_1) (digs M)]) (h1 := fun Wx hSw => by (go_simp; refine symCallN ?_; have hh := (rof8_at hSw 10 (by decide) : Calls _ _ _ _ (fun e W' => ∃ va vc, e = .returned (.agg #[.bool false, .slice va (digs 10).length vc]) ∧ Sep w (dR (.slice va (digs 10).length vc) (digs 10) :: _) W')); refine hh.mono ?_; rintro e W' ⟨va, vc, e1, e2⟩; refine ⟨_, _, e1, ⟨va, vc, rfl, rfl⟩, ?_⟩; exact Sep.into e2 1 rfl)) (h2 := fun v E1 hvE => ?_)
 obtain ⟨va_2_1, vc_2_1, rfl, rfl⟩ := hvE; simp only [Act.put, pa]; try dsimp only [List.set]
 refine allocL 0 rfl (fun q => .pointer (some ⟨q, 0, none⟩)) (.cells #[.bool false, .slice none 0 0] 167) (h1 := fun Wx => by go_simp) (h2 := fun qq42 => ?_); simp only [Act.put, pa]; try dsimp only [List.set]
 try simp only [List.set_cons_zero, List.set_cons_succ]
 refine qd undef [boxR qq42 (.cells #[.bool false, .slice va_2_1 (digs 10).length vc_2_1] 167), dR (.slice va_2_1 (digs 10).length vc_2_1) (digs 10), boxR qq32 (.cells #[.bool bn, .slice va_1_1 (digs M).length vc_1_1] 167), dR (.slice va_1_1 (digs M).length vc_1_1) (digs M)] (h1 := fun Wx hSw => by (have hz := hSw.box (b := qq42) (o := .cells #[.bool false, .slice none 0 0] 167) 0 rfl; have z0 := cellAt hz 0 (v := .bool false) rfl; have y0 := frozenAt hz 0; have z1 := cellAt hz 1 (v := .slice none 0 0) rfl; have y1 := frozenAt hz 1; go_simp; exact ⟨rfl, (Sep.setBox (cs := #[.bool false, .slice none 0 0]) (t := 167) (Sep.setBox (cs := #[.bool false, .slice none 0 0]) (t := 167) hSw 0 rfl 0 (.bool false)) 0 rfl 1 (.slice va_2_1 (digs 10).length vc_2_1))⟩)) (h2 := ?_)
 refine doneL (h := fun w2 S => ?_)
 replace S := Lib.hid S
 go_upto_region 4 with fail
 refine regionL (E := [emptyR, emptyR, boxR qq42 (.cells #[.bool false, .slice va_2_1 (digs 10).length vc_2_1] 167), dR (.slice va_2_1 (digs 10).length vc_2_1) (digs 10), boxR qq32 (.cells #[.bool bn, .slice va_1_1 (digs M).length vc_1_1] 167), dR (.slice va_1_1 (digs M).length vc_1_1) (digs M)]) (base := bA) (Sep.putE (Sep.putE S.out)) ?_
 clear S
 refine qa ?_
 refine qd _ [emptyR, emptyR, boxR qq42 (.cells #[.bool false, .slice va_2_1 (digs 10).length vc_2_1] 167), dR (.slice va_2_1 (digs 10).length vc_2_1) (digs 10), boxR qq32 (.cells #[.bool bn, .slice va_1_1 (digs M).length vc_1_1] 167), dR (.slice va_1_1 (digs M).length vc_1_1) (digs M)] (h1 := fun Wx hSw => by (have hz := hSw.box (b := qq32) (o := .cells #[.bool bn, .slice va_1_1 (digs M).length vc_1_1] 167) 4 rfl; have z0 := cellAt hz 0 (v := .bool bn) rfl; have z1 := cellAt hz 1 (v := .slice va_1_1 (digs M).length vc_1_1) rfl; go_simp; exact ⟨rfl, hSw⟩)) (h2 := ?_)
 refine stepL (fun v E1 => ∃ (va_3_2 : Option Addr) (vc_3_2 : Nat), v = .agg #[.bool false, .slice va_3_2 (digs M).length vc_3_2] ∧ E1 = [dR (.slice va_3_2 (digs M).length vc_3_2) (digs M), emptyR, boxR qq42 (.cells #[.bool false, .slice va_2_1 (digs 10).length vc_2_1] 167), dR (.slice va_2_1 (digs 10).length vc_2_1) (digs 10), boxR qq32 (.cells #[.bool bn, .slice va_1_1 (digs M).length vc_1_1] 167), dR (.slice va_1_1 (digs M).length vc_1_1) (digs M)]) (h1 := fun Wx hSw => by (go_simp; refine symCallN ?_; have hh := rwhole_at hSw false _ (digs M) (hSw.seesD 5 rfl) (digs_ok _) (by have := HML.out; omega) (q := false) (D := digs M) rfl (by rw [digs_val]); refine hh.mono ?_; rintro e W' ⟨va, vc, e1, e2⟩; refine ⟨_, _, e1, ⟨va, vc, rfl, rfl⟩, ?_⟩; exact Sep.into e2 0 rfl)) (h2 := fun v E1 hvE => ?_)
 obtain ⟨va_3_2, vc_3_2, rfl, rfl⟩ := hvE; simp only [Act.put, pa]; try dsimp only [List.set]
 refine allocL 1 rfl (fun q => .pointer (some ⟨q, 0, none⟩)) (.cells #[.bool false, .slice none 0 0] 167) (h1 := fun Wx => by go_simp) (h2 := fun qq63 => ?_); simp only [Act.put, pa]; try dsimp only [List.set]
 try simp only [List.set_cons_zero, List.set_cons_succ]
 refine qd undef [dR (.slice va_3_2 (digs M).length vc_3_2) (digs M), boxR qq63 (.cells #[.bool false, .slice va_3_2 (digs M).length vc_3_2] 167), boxR qq42 (.cells #[.bool false, .slice va_2_1 (digs 10).length vc_2_1] 167), dR (.slice va_2_1 (digs 10).length vc_2_1) (digs 10), boxR qq32 (.cells #[.bool bn, .slice va_1_1 (digs M).length vc_1_1] 167), dR (.slice va_1_1 (digs M).length vc_1_1) (digs M)] (h1 := fun Wx hSw => by (have hz := hSw.box (b := qq63) (o := .cells #[.bool false, .slice none 0 0] 167) 1 rfl; have z0 := cellAt hz 0 (v := .bool false) rfl; have y0 := frozenAt hz 0; have z1 := cellAt hz 1 (v := .slice none 0 0) rfl; have y1 := frozenAt hz 1; go_simp; exact ⟨rfl, (Sep.setBox (cs := #[.bool false, .slice none 0 0]) (t := 167) (Sep.setBox (cs := #[.bool false, .slice none 0 0]) (t := 167) hSw 1 rfl 0 (.bool false)) 1 rfl 1 (.slice va_3_2 (digs M).length vc_3_2))⟩)) (h2 := ?_)
 refine doneL (h := fun w3 S => ?_)
 replace S := Lib.hid S
 go_wp2
 go_loopw [5] (fun s5 wr => ∃ (s : ByteArray) (tl : List UInt8) (m : Nat) (ya : Option Addr) (yc : Nat), Hid (s = ⟨tl.toArray⟩ ∧ DecAt M m tl) ∧ s5 = .string s ∧ Sep w ([dR (.slice ya (digs m).length yc) (digs m), boxR qq63 (.cells #[.bool false, .slice ya (digs m).length yc] 167), boxR qq42 (.cells #[.bool false, .slice va_2_1 (digs 10).length vc_2_1] 167), dR (.slice va_2_1 (digs 10).length vc_2_1) (digs 10), boxR qq32 (.cells #[.bool bn, .slice va_1_1 (digs M).length vc_1_1] 167), dR (.slice va_1_1 (digs M).length vc_1_1) (digs M)] ++ bA) wr) (fun s5 _ => strM s5)
 case atStart =>
  exact ⟨⟨#[]⟩, [], M, _, _, Lib.hid ⟨rfl, dec_start M⟩, by first | rfl | trivial, S.out⟩
 case round =>
  clear S
  obtain ⟨s, tl, m, ya, yc, HK, rfl, S⟩ := hrel
  have hsl : s.size = tl.length := by rw [HK.out.1]; simp [ByteArray.size]
  have hmM : m ≤ M := by rw [HK.out.2.1]; exact Nat.div_le_self _ _
  have HMM : Hid (m ≤ M) := Lib.hid hmM
  clear hmM
  have HSL := Lib.hid hsl
  clear hsl
  obtain ⟨eb, heb⟩ : ∃ q, decide (s.size = 0) = q := ⟨_, rfl⟩
  obtain ⟨gb, hgb⟩ : ∃ q, (eb || decide (0 < (digs m).length)) = q := ⟨_, rfl⟩
  have heb2 : ((s.size : Int) == 0) = eb := by rw [← heb]; by_cases h : s.size = 0 <;> simp [h]
  have HEB2 := Lib.hid heb2
  have HEB := Lib.hid heb
  have HGB := Lib.hid hgb
  clear heb hgb heb2
  replace S := Lib.hid S
  go_upto_region 5 with fail
  go_cut [23] (fun s23 wx => s23 = .bool gb ∧ Sep w ([dR (.slice ya (digs m).length yc) (digs m), boxR qq63 (.cells #[.bool false, .slice ya (digs m).length yc] 167), boxR qq42 (.cells #[.bool false, .slice va_2_1 (digs 10).length vc_2_1] 167), dR (.slice va_2_1 (digs 10).length vc_2_1) (digs 10), boxR qq32 (.cells #[.bool bn, .slice va_1_1 (digs M).length vc_1_1] 167), dR (.slice va_1_1 (digs M).length vc_1_1) (digs M)] ++ bA) wx)
  case first =>
   cases eb with
   | true =>
    obtain rfl : gb = true := by rw [← HGB.out]; rfl
    refine regionL (E := [dR (.slice ya (digs m).length yc) (digs m), boxR qq63 (.cells #[.bool false, .slice ya (digs m).length yc] 167), boxR qq42 (.cells #[.bool false, .slice va_2_1 (digs 10).length vc_2_1] 167), dR (.slice va_2_1 (digs 10).length vc_2_1) (digs 10), boxR qq32 (.cells #[.bool bn, .slice va_1_1 (digs M).length vc_1_1] 167), dR (.slice va_1_1 (digs M).length vc_1_1) (digs M)]) (base := bA) S.out ?_
    clear S
    iterate 2 refine qa ?_
    refine qa (v := .bool true) (hy := fun E Wx hSw => by (go_simp; rw [HEB2.out]; exact ⟨rfl, hSw⟩)) (h := ?_)
    refine qa ?_
    iterate 4 refine qz ?_
    refine qa ?_
    refine doneL (h := fun w4 S => ?_)
    replace S := Lib.hid S
    go_wp2_with fail
    go_meet
    exact ⟨rfl, S.out⟩
   | false =>
    have HG2 : Hid (decide (0 < (digs m).length) = gb) := Lib.hid (by rw [← HGB.out]; rfl)
    refine regionL (E := [dR (.slice ya (digs m).length yc) (digs m), boxR qq63 (.cells #[.bool false, .slice ya (digs m).length yc] 167), boxR qq42 (.cells #[.bool false, .slice va_2_1 (digs 10).length vc_2_1] 167), dR (.slice va_2_1 (digs 10).length vc_2_1) (digs 10), boxR qq32 (.cells #[.bool bn, .slice va_1_1 (digs M).length vc_1_1] 167), dR (.slice va_1_1 (digs M).length vc_1_1) (digs M)]) (base := bA) S.out ?_
    clear S
    iterate 2 refine qa ?_
    refine qa (v := .bool false) (hy := fun E Wx hSw => by (go_simp; rw [HEB2.out]; exact ⟨rfl, hSw⟩)) (h := ?_)
    iterate 2 refine qa ?_
    refine qd _ [dR (.slice ya (digs m).length yc) (digs m), boxR qq63 (.cells #[.bool false, .slice ya (digs m).length yc] 167), boxR qq42 (.cells #[.bool false, .slice va_2_1 (digs 10).length vc_2_1] 167), dR (.slice va_2_1 (digs 10).length vc_2_1) (digs 10), boxR qq32 (.cells #[.bool bn, .slice va_1_1 (digs M).length vc_1_1] 167), dR (.slice va_1_1 (digs M).length vc_1_1) (digs M)] (h1 := fun Wx hSw => by (have hz := hSw.box (b := qq63) (o := .cells #[.bool false, .slice ya (digs m).length yc] 167) 1 rfl; have z0 := cellAt hz 0 (v := .bool false) rfl; have z1 := cellAt hz 1 (v := .slice ya (digs m).length yc) rfl; go_simp; exact ⟨rfl, hSw⟩)) (h2 := ?_)
    refine qa ?_
    refine qa (v := .bool gb) (hy := fun E Wx hSw => by (go_simp; rw [HG2.out]; exact ⟨rfl, hSw⟩)) (h := ?_)
    refine qa ?_
    refine doneL (h := fun w5 S => ?_)
    replace S := Lib.hid S
    go_wp2_with fail
    go_meet
    exact ⟨rfl, S.out⟩
  case rest =>
   obtain ⟨rfl, S⟩ := hcut
   replace S := Lib.hid S
   cases gb with
   | true =>
    have hgo : tl = [] ∨ 0 < m := by
     have h := HGB.out; rw [← HEB.out, HSL.out] at h; simp at h
     rcases h with h | h
     ·
      exact .inl (by simpa using h)
     ·
      exact .inr (by rcases Nat.eq_zero_or_pos m with e | e; subst e; rw [digs_zero] at h; simp at h; exact e)
    have hl20 := dec_len HK.out.2 XhM20.out hgo
    have hstep := dec_step HK.out.2 hgo
    obtain ⟨Q, hQ⟩ : ∃ q, m / 10 = q := ⟨_, rfl⟩
    obtain ⟨R, hR⟩ : ∃ q, m % 10 = q := ⟨_, rfl⟩
    have hR10 : R < 10 := by omega
    rw [hQ, hR] at hstep
    obtain ⟨c, hc⟩ : ∃ q, 48 + R = q := ⟨_, rfl⟩
    rw [hc] at hstep
    have k1 : IntKind.i64.wrap (48 + (R : Int)) = (c : Int) := by rw [IntWalk.i64_in _ (by omega)]; omega
    have k2 : IntKind.u8.wrap (c : Int) = (c : Int) := by simp [IntKind.wrap, IntKind.bits, IntKind.signed]; omega
    have Xhgo := Lib.hid hgo
    have Xhl20 := Lib.hid hl20
    have Xhstep := Lib.hid hstep
    have XhQ := Lib.hid hQ
    have XhR := Lib.hid hR
    have XhR10 := Lib.hid hR10
    clear hgo hl20 hstep hQ hR hR10 hc
    go_upto_region 6 with fail
    refine regionL (E := [emptyR, emptyR, emptyR, emptyR, dR (.slice ya (digs m).length yc) (digs m), boxR qq63 (.cells #[.bool false, .slice ya (digs m).length yc] 167), boxR qq42 (.cells #[.bool false, .slice va_2_1 (digs 10).length vc_2_1] 167), dR (.slice va_2_1 (digs 10).length vc_2_1) (digs 10), boxR qq32 (.cells #[.bool bn, .slice va_1_1 (digs M).length vc_1_1] 167), dR (.slice va_1_1 (digs M).length vc_1_1) (digs M)]) (base := bA) (Sep.putE (Sep.putE (Sep.putE (Sep.putE S.out)))) ?_
    clear S
    refine qd _ [emptyR, emptyR, emptyR, emptyR, dR (.slice ya (digs m).length yc) (digs m), boxR qq63 (.cells #[.bool false, .slice ya (digs m).length yc] 167), boxR qq42 (.cells #[.bool false, .slice va_2_1 (digs 10).length vc_2_1] 167), dR (.slice va_2_1 (digs 10).length vc_2_1) (digs 10), boxR qq32 (.cells #[.bool bn, .slice va_1_1 (digs M).length vc_1_1] 167), dR (.slice va_1_1 (digs M).length vc_1_1) (digs M)] (h1 := fun Wx hSw => by (have hz := hSw.box (b := qq63) (o := .cells #[.bool false, .slice ya (digs m).length yc] 167) 5 rfl; have z0 := cellAt hz 0 (v := .bool false) rfl; have z1 := cellAt hz 1 (v := .slice ya (digs m).length yc) rfl; go_simp; exact ⟨rfl, hSw⟩)) (h2 := ?_)
    refine qd _ [emptyR, emptyR, emptyR, emptyR, dR (.slice ya (digs m).length yc) (digs m), boxR qq63 (.cells #[.bool false, .slice ya (digs m).length yc] 167), boxR qq42 (.cells #[.bool false, .slice va_2_1 (digs 10).length vc_2_1] 167), dR (.slice va_2_1 (digs 10).length vc_2_1) (digs 10), boxR qq32 (.cells #[.bool bn, .slice va_1_1 (digs M).length vc_1_1] 167), dR (.slice va_1_1 (digs M).length vc_1_1) (digs M)] (h1 := fun Wx hSw => by (have hz := hSw.box (b := qq42) (o := .cells #[.bool false, .slice va_2_1 (digs 10).length vc_2_1] 167) 6 rfl; have z0 := cellAt hz 0 (v := .bool false) rfl; have z1 := cellAt hz 1 (v := .slice va_2_1 (digs 10).length vc_2_1) rfl; go_simp; exact ⟨rfl, hSw⟩)) (h2 := ?_)
    refine stepL (fun v E1 => ∃ (qa_6_3 : Option Addr) (qc_6_3 : Nat) (ra_6_3 : Option Addr) (rc_6_3 : Nat), v = .tuple #[.agg #[.bool false, .slice qa_6_3 (digs Q).length qc_6_3], .agg #[.bool false, .slice ra_6_3 (digs R).length rc_6_3]] ∧ E1 = [emptyR, emptyR, dR (.slice qa_6_3 (digs Q).length qc_6_3) (digs Q), dR (.slice ra_6_3 (digs R).length rc_6_3) (digs R), dR (.slice ya (digs m).length yc) (digs m), boxR qq63 (.cells #[.bool false, .slice ya (digs m).length yc] 167), boxR qq42 (.cells #[.bool false, .slice va_2_1 (digs 10).length vc_2_1] 167), dR (.slice va_2_1 (digs 10).length vc_2_1) (digs 10), boxR qq32 (.cells #[.bool bn, .slice va_1_1 (digs M).length vc_1_1] 167), dR (.slice va_1_1 (digs M).length vc_1_1) (digs M)]) (h1 := fun Wx hSw => by (go_simp; refine symCallN ?_; have hh := rtens_at hSw m _ _ (hSw.seesD 4 rfl) (hSw.seesD 7 rfl) (Nat.lt_of_le_of_lt HMM.out XhM20.out) XhQ.out XhR.out; refine hh.mono ?_; rintro e W' ⟨qA, qC, ra, rc, e1, e2⟩; refine ⟨_, _, e1, ⟨qA, qC, ra, rc, rfl, rfl⟩, ?_⟩; exact Sep.into (Sep.into e2 (2 + 1) rfl) 3 rfl)) (h2 := fun v E1 hvE => ?_)
    obtain ⟨qa_6_3, qc_6_3, ra_6_3, rc_6_3, rfl, rfl⟩ := hvE; simp only [Act.put, pa]; try dsimp only [List.set]
    iterate 3 refine qa ?_
    refine allocL 0 rfl (fun q => .pointer (some ⟨q, 0, none⟩)) (.cells #[.bool false, .slice none 0 0] 167) (h1 := fun Wx => by go_simp) (h2 := fun qq74 => ?_); simp only [Act.put, pa]; try dsimp only [List.set]
    try simp only [List.set_cons_zero, List.set_cons_succ]
    refine allocL 1 rfl (fun q => .pointer (some ⟨q, 0, none⟩)) (.cells #[.bool false, .slice none 0 0] 167) (h1 := fun Wx => by go_simp) (h2 := fun qq85 => ?_); simp only [Act.put, pa]; try dsimp only [List.set]
    try simp only [List.set_cons_zero, List.set_cons_succ]
    refine qd undef [boxR qq74 (.cells #[.bool false, .slice qa_6_3 (digs Q).length qc_6_3] 167), boxR qq85 (.cells #[.bool false, .slice none 0 0] 167), dR (.slice qa_6_3 (digs Q).length qc_6_3) (digs Q), dR (.slice ra_6_3 (digs R).length rc_6_3) (digs R), dR (.slice ya (digs m).length yc) (digs m), boxR qq63 (.cells #[.bool false, .slice ya (digs m).length yc] 167), boxR qq42 (.cells #[.bool false, .slice va_2_1 (digs 10).length vc_2_1] 167), dR (.slice va_2_1 (digs 10).length vc_2_1) (digs 10), boxR qq32 (.cells #[.bool bn, .slice va_1_1 (digs M).length vc_1_1] 167), dR (.slice va_1_1 (digs M).length vc_1_1) (digs M)] (h1 := fun Wx hSw => by (have hz := hSw.box (b := qq74) (o := .cells #[.bool false, .slice none 0 0] 167) 0 rfl; have z0 := cellAt hz 0 (v := .bool false) rfl; have y0 := frozenAt hz 0; have z1 := cellAt hz 1 (v := .slice none 0 0) rfl; have y1 := frozenAt hz 1; go_simp; exact ⟨rfl, (Sep.setBox (cs := #[.bool false, .slice none 0 0]) (t := 167) (Sep.setBox (cs := #[.bool false, .slice none 0 0]) (t := 167) hSw 0 rfl 0 (.bool false)) 0 rfl 1 (.slice qa_6_3 (digs Q).length qc_6_3))⟩)) (h2 := ?_)
    refine qd undef [boxR qq74 (.cells #[.bool false, .slice qa_6_3 (digs Q).length qc_6_3] 167), boxR qq85 (.cells #[.bool false, .slice ra_6_3 (digs R).length rc_6_3] 167), dR (.slice qa_6_3 (digs Q).length qc_6_3) (digs Q), dR (.slice ra_6_3 (digs R).length rc_6_3) (digs R), dR (.slice ya (digs m).length yc) (digs m), boxR qq63 (.cells #[.bool false, .slice ya (digs m).length yc] 167), boxR qq42 (.cells #[.bool false, .slice va_2_1 (digs 10).length vc_2_1] 167), dR (.slice va_2_1 (digs 10).length vc_2_1) (digs 10), boxR qq32 (.cells #[.bool bn, .slice va_1_1 (digs M).length vc_1_1] 167), dR (.slice va_1_1 (digs M).length vc_1_1) (digs M)] (h1 := fun Wx hSw => by (have hz := hSw.box (b := qq85) (o := .cells #[.bool false, .slice none 0 0] 167) 1 rfl; have z0 := cellAt hz 0 (v := .bool false) rfl; have y0 := frozenAt hz 0; have z1 := cellAt hz 1 (v := .slice none 0 0) rfl; have y1 := frozenAt hz 1; go_simp; exact ⟨rfl, (Sep.setBox (cs := #[.bool false, .slice none 0 0]) (t := 167) (Sep.setBox (cs := #[.bool false, .slice none 0 0]) (t := 167) hSw 1 rfl 0 (.bool false)) 1 rfl 1 (.slice ra_6_3 (digs R).length rc_6_3))⟩)) (h2 := ?_)
    refine doneL (h := fun w6 S => ?_)
    replace S := Lib.hid S
    have hcat : ¬ 9223372036854775807 < 1 + s.size := by rw [HSL.out]; have := Xhl20.out; omega
    go_upto_region 7 with fail
    refine regionL (E := [emptyR, boxR qq74 (.cells #[.bool false, .slice qa_6_3 (digs Q).length qc_6_3] 167), boxR qq85 (.cells #[.bool false, .slice ra_6_3 (digs R).length rc_6_3] 167), dR (.slice qa_6_3 (digs Q).length qc_6_3) (digs Q), dR (.slice ra_6_3 (digs R).length rc_6_3) (digs R), dR (.slice ya (digs m).length yc) (digs m), boxR qq63 (.cells #[.bool false, .slice ya (digs m).length yc] 167), boxR qq42 (.cells #[.bool false, .slice va_2_1 (digs 10).length vc_2_1] 167), dR (.slice va_2_1 (digs 10).length vc_2_1) (digs 10), boxR qq32 (.cells #[.bool bn, .slice va_1_1 (digs M).length vc_1_1] 167), dR (.slice va_1_1 (digs M).length vc_1_1) (digs M)]) (base := bA) (Sep.putE S.out) ?_
    clear S
    refine qa ?_
    refine qd _ [emptyR, boxR qq74 (.cells #[.bool false, .slice qa_6_3 (digs Q).length qc_6_3] 167), boxR qq85 (.cells #[.bool false, .slice ra_6_3 (digs R).length rc_6_3] 167), dR (.slice qa_6_3 (digs Q).length qc_6_3) (digs Q), dR (.slice ra_6_3 (digs R).length rc_6_3) (digs R), dR (.slice ya (digs m).length yc) (digs m), boxR qq63 (.cells #[.bool false, .slice ya (digs m).length yc] 167), boxR qq42 (.cells #[.bool false, .slice va_2_1 (digs 10).length vc_2_1] 167), dR (.slice va_2_1 (digs 10).length vc_2_1) (digs 10), boxR qq32 (.cells #[.bool bn, .slice va_1_1 (digs M).length vc_1_1] 167), dR (.slice va_1_1 (digs M).length vc_1_1) (digs M)] (h1 := fun Wx hSw => by (have hz := hSw.box (b := qq85) (o := .cells #[.bool false, .slice ra_6_3 (digs R).length rc_6_3] 167) 2 rfl; have z0 := cellAt hz 0 (v := .bool false) rfl; have z1 := cellAt hz 1 (v := .slice ra_6_3 (digs R).length rc_6_3) rfl; go_simp; exact ⟨rfl, hSw⟩)) (h2 := ?_)
    refine qd (.int .i64 (R : Int)) [emptyR, boxR qq74 (.cells #[.bool false, .slice qa_6_3 (digs Q).length qc_6_3] 167), boxR qq85 (.cells #[.bool false, .slice ra_6_3 (digs R).length rc_6_3] 167), dR (.slice qa_6_3 (digs Q).length qc_6_3) (digs Q), dR (.slice ra_6_3 (digs R).length rc_6_3) (digs R), dR (.slice ya (digs m).length yc) (digs m), boxR qq63 (.cells #[.bool false, .slice ya (digs m).length yc] 167), boxR qq42 (.cells #[.bool false, .slice va_2_1 (digs 10).length vc_2_1] 167), dR (.slice va_2_1 (digs 10).length vc_2_1) (digs 10), boxR qq32 (.cells #[.bool bn, .slice va_1_1 (digs M).length vc_1_1] 167), dR (.slice va_1_1 (digs M).length vc_1_1) (digs M)] (h1 := fun Wx hSw => by (go_simp; refine symCall ?_; have hh := rdigit0_ok _ _ R (by have := XhR10.out; omega) (hSw.seesD 4 rfl); exact hh.mono fun e W' ⟨e1, e2⟩ => ⟨e1, by rw [e2]; exact hSw⟩)) (h2 := ?_)
    iterate 2 refine qa ?_
    refine allocL 0 rfl (fun q => .slice (some ⟨q, 0, none⟩) 1 1) (.cells #[.int .u8 c] 5) (h1 := fun Wx => by go_simp) (h2 := fun qB13 => ?_); simp only [Act.put, pa]; try dsimp only [List.set]
    try simp only [List.set_cons_zero, List.set_cons_succ]
    refine qd (.string ⟨#[c.toUInt8]⟩) [boxR qB13 (.cells #[.int .u8 c] 5), boxR qq74 (.cells #[.bool false, .slice qa_6_3 (digs Q).length qc_6_3] 167), boxR qq85 (.cells #[.bool false, .slice ra_6_3 (digs R).length rc_6_3] 167), dR (.slice qa_6_3 (digs Q).length qc_6_3) (digs Q), dR (.slice ra_6_3 (digs R).length rc_6_3) (digs R), dR (.slice ya (digs m).length yc) (digs m), boxR qq63 (.cells #[.bool false, .slice ya (digs m).length yc] 167), boxR qq42 (.cells #[.bool false, .slice va_2_1 (digs 10).length vc_2_1] 167), dR (.slice va_2_1 (digs 10).length vc_2_1) (digs 10), boxR qq32 (.cells #[.bool bn, .slice va_1_1 (digs M).length vc_1_1] 167), dR (.slice va_1_1 (digs M).length vc_1_1) (digs M)] (h1 := fun Wx hSw => by (have hz := hSw.box (b := qB13) 0 rfl; have z0 := cellAt hz 0 (v := .int .u8 c) rfl; have hc1 := conv_one z0; go_simp; exact ⟨rfl, hSw⟩)) (h2 := ?_)
    iterate 3 refine qa ?_
    refine doneL (h := fun w7 S => ?_)
    replace S := Lib.hid S
    go_upto_region 8 with fail
    refine regionL (E := [boxR qB13 (.cells #[.int .u8 c] 5), boxR qq74 (.cells #[.bool false, .slice qa_6_3 (digs Q).length qc_6_3] 167), boxR qq85 (.cells #[.bool false, .slice ra_6_3 (digs R).length rc_6_3] 167), dR (.slice qa_6_3 (digs Q).length qc_6_3) (digs Q), dR (.slice ra_6_3 (digs R).length rc_6_3) (digs R), dR (.slice ya (digs m).length yc) (digs m), boxR qq63 (.cells #[.bool false, .slice ya (digs m).length yc] 167), boxR qq42 (.cells #[.bool false, .slice va_2_1 (digs 10).length vc_2_1] 167), dR (.slice va_2_1 (digs 10).length vc_2_1) (digs 10), boxR qq32 (.cells #[.bool bn, .slice va_1_1 (digs M).length vc_1_1] 167), dR (.slice va_1_1 (digs M).length vc_1_1) (digs M)]) (base := bA) S.out ?_
    clear S
    refine qd _ [boxR qB13 (.cells #[.int .u8 c] 5), boxR qq74 (.cells #[.bool false, .slice qa_6_3 (digs Q).length qc_6_3] 167), boxR qq85 (.cells #[.bool false, .slice ra_6_3 (digs R).length rc_6_3] 167), dR (.slice qa_6_3 (digs Q).length qc_6_3) (digs Q), dR (.slice ra_6_3 (digs R).length rc_6_3) (digs R), dR (.slice ya (digs m).length yc) (digs m), boxR qq63 (.cells #[.bool false, .slice ya (digs m).length yc] 167), boxR qq42 (.cells #[.bool false, .slice va_2_1 (digs 10).length vc_2_1] 167), dR (.slice va_2_1 (digs 10).length vc_2_1) (digs 10), boxR qq32 (.cells #[.bool bn, .slice va_1_1 (digs M).length vc_1_1] 167), dR (.slice va_1_1 (digs M).length vc_1_1) (digs M)] (h1 := fun Wx hSw => by (have hz := hSw.box (b := qq74) (o := .cells #[.bool false, .slice qa_6_3 (digs Q).length qc_6_3] 167) 1 rfl; have z0 := cellAt hz 0 (v := .bool false) rfl; have z1 := cellAt hz 1 (v := .slice qa_6_3 (digs Q).length qc_6_3) rfl; go_simp; exact ⟨rfl, hSw⟩)) (h2 := ?_)
    refine qd undef [boxR qB13 (.cells #[.int .u8 c] 5), boxR qq74 (.cells #[.bool false, .slice qa_6_3 (digs Q).length qc_6_3] 167), boxR qq85 (.cells #[.bool false, .slice ra_6_3 (digs R).length rc_6_3] 167), dR (.slice qa_6_3 (digs Q).length qc_6_3) (digs Q), dR (.slice ra_6_3 (digs R).length rc_6_3) (digs R), dR (.slice ya (digs m).length yc) (digs m), boxR qq63 (.cells #[.bool false, .slice qa_6_3 (digs Q).length qc_6_3] 167), boxR qq42 (.cells #[.bool false, .slice va_2_1 (digs 10).length vc_2_1] 167), dR (.slice va_2_1 (digs 10).length vc_2_1) (digs 10), boxR qq32 (.cells #[.bool bn, .slice va_1_1 (digs M).length vc_1_1] 167), dR (.slice va_1_1 (digs M).length vc_1_1) (digs M)] (h1 := fun Wx hSw => by (have hz := hSw.box (b := qq63) (o := .cells #[.bool false, .slice ya (digs m).length yc] 167) 6 rfl; have z0 := cellAt hz 0 (v := .bool false) rfl; have y0 := frozenAt hz 0; have z1 := cellAt hz 1 (v := .slice ya (digs m).length yc) rfl; have y1 := frozenAt hz 1; go_simp; exact ⟨rfl, (Sep.setBox (cs := #[.bool false, .slice ya (digs m).length yc]) (t := 167) (Sep.setBox (cs := #[.bool false, .slice ya (digs m).length yc]) (t := 167) hSw 6 rfl 0 (.bool false)) 6 rfl 1 (.slice qa_6_3 (digs Q).length qc_6_3))⟩)) (h2 := ?_)
    refine doneL (h := fun w8 S => ?_)
    replace S := Lib.hid S
    have e8 : (⟨#[UInt8.ofNat c]⟩ : ByteArray) ++ s = ⟨(c.toUInt8 :: tl).toArray⟩ := by rw [HK.out.1]; apply ByteArray.ext; simp
    have hsm : strM ((Value.string (⟨#[UInt8.ofNat c]⟩ ++ s))) < strM (.string s) := by rw [strM_s, strM_s, ByteArray.size_append, HSL.out]; have := Xhl20.out; show 64 - (1 + tl.length) < _; omega
    clear hcat k1 k2
    go_wp2
    exact ⟨⟨_, c.toUInt8 :: tl, Q, qa_6_3, qc_6_3, Lib.hid ⟨e8, Xhstep.out⟩, by first | rfl | trivial, S.out.sub (.cons _ (.cons _ (.cons _ (.cons_cons _ (.cons _ (.cons _ (.cons_cons _ (.cons_cons _ (.cons_cons _ (.cons_cons _ (.cons_cons _ (List.Sublist.refl _))))))))))))⟩, hsm⟩
   | false =>
    have hm0 : m = 0 := by
     have h := HGB.out; simp at h
     rcases Nat.eq_zero_or_pos m with e | e; exact e; exact absurd (h.2) (fun e2 => by rw [digs_pos (by omega)] at e2; simp at e2)
    have htl : tl ≠ [] := fun e => by
     have h := HGB.out; rw [← HEB.out, HSL.out, e] at h; simp at h
    have hdd := dec_done (by have h := HK.out.2; rwa [hm0] at h) htl
    have hse : s = ⟨(digitsU M).toArray⟩ := by rw [HK.out.1, hdd]
    have hcat : ¬ 9223372036854775807 < 1 + s.size := by rw [hse]; have := digitsU_len 19 M XhM20.out; simp [ByteArray.size]; omega
    have HSE := Lib.hid hse
    clear htl hdd hse hm0
    go_upto_region 9 with fail
    refine regionL (E := [dR (.slice ya (digs m).length yc) (digs m), boxR qq63 (.cells #[.bool false, .slice ya (digs m).length yc] 167), boxR qq42 (.cells #[.bool false, .slice va_2_1 (digs 10).length vc_2_1] 167), dR (.slice va_2_1 (digs 10).length vc_2_1) (digs 10), boxR qq32 (.cells #[.bool bn, .slice va_1_1 (digs M).length vc_1_1] 167), dR (.slice va_1_1 (digs M).length vc_1_1) (digs M)]) (base := bA) S.out ?_
    clear S
    refine qa ?_
    refine qd _ [dR (.slice ya (digs m).length yc) (digs m), boxR qq63 (.cells #[.bool false, .slice ya (digs m).length yc] 167), boxR qq42 (.cells #[.bool false, .slice va_2_1 (digs 10).length vc_2_1] 167), dR (.slice va_2_1 (digs 10).length vc_2_1) (digs 10), boxR qq32 (.cells #[.bool bn, .slice va_1_1 (digs M).length vc_1_1] 167), dR (.slice va_1_1 (digs M).length vc_1_1) (digs M)] (h1 := fun Wx hSw => by (have hz := hSw.box (b := qq32) (o := .cells #[.bool bn, .slice va_1_1 (digs M).length vc_1_1] 167) 4 rfl; have z0 := cellAt hz 0 (v := .bool bn) rfl; have z1 := cellAt hz 1 (v := .slice va_1_1 (digs M).length vc_1_1) rfl; go_simp; exact ⟨rfl, hSw⟩)) (h2 := ?_)
    refine doneL (h := fun w9 S => ?_)
    replace S := Lib.hid S
    cases bn with
    | true =>
     go_wp2
     refine bodyPost_ret (v := .string (⟨#[45]⟩ ++ s)) ?_ ?_ ?_
     ·
      simp [results, Tryz.results200, go_sem]
     ·
      rfl
     refine ⟨?_, ?_⟩
     ·
      first | (rw [HSE.out]; done) | (rw [HSE.out]; congr 2; done) | (rw [HSE.out]; congr 2; apply ByteArray.ext; simp)
     replace S := S.out
     rw [HBS.out] at S
     exact S.tail.tail.tail.tail.tail.tail
    | false =>
     go_wp2
     refine bodyPost_ret (v := .string s) ?_ ?_ ?_
     ·
      simp [results, Tryz.results200, go_sem]
     ·
      rfl
     refine ⟨?_, ?_⟩
     ·
      first | (rw [HSE.out]; done) | (rw [HSE.out]; congr 2; done) | (rw [HSE.out]; congr 2; apply ByteArray.ext; simp)
     replace S := S.out
     rw [HBS.out] at S
     exact S.tail.tail.tail.tail.tail.tail
end
end Go.Proofs.YtijlebhoapdfnaaGreat
