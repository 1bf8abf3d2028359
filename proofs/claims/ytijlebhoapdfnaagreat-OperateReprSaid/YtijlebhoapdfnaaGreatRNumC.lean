/- ch 16: the reference's numbers: quotients, texts. -/
import Derived.Test.YtijlebhoapdfnaaGreatRNumB
set_option maxRecDepth 100000
set_option maxHeartbeats 12800000
namespace Go.Proofs.YtijlebhoapdfnaaGreat
set_option linter.unusedSimpArgs false
open Go.RowKit
set_option linter.unusedVariables false
attribute [local irreducible] wpSeqS wpAnyS wpPreS
theorem digs_le : ∀ {k n : Nat}, n < 65536 ^ k → (digs n).length ≤ k
 | 0, n, h => by rw [show n = 0 by simpa using h, digs_zero]; simp
 | k + 1, n, h => by
  by_cases h0 : n = 0
  ·
   subst h0; rw [digs_zero]; simp
  ·
   rw [digs_pos h0, List.length_cons]
   have := digs_le (k := k) (n := n / 65536) (by rw [Nat.pow_succ] at h; omega)
   omega
/-- The quotient and the rest, rounded down. -/
def fdP (a b : Int) : Int × Int := if a.tmod b ≠ 0 ∧ decide (a.tmod b < 0) ≠ decide (b < 0) then (a.tdiv b - 1, a.tmod b + b) else (a.tdiv b, a.tmod b)
theorem td_abs {a b : Int} {A B Q R : Nat} (hB : 0 < B) (hA : a.natAbs = A) (hBb : b.natAbs = B) (hQ : Q = A / B) (hR : R = A % B) :
  ((decide (a < 0) != decide (b < 0)) = false → a.tdiv b = (Q : Int)) ∧ ((decide (a < 0) != decide (b < 0)) = true → a.tdiv b = -(Q : Int)) ∧ (decide (a < 0) = false → a.tmod b = (R : Int)) ∧ (decide (a < 0) = true → a.tmod b = -(R : Int)) := by
 subst hA hBb hQ hR
 rcases Int.natAbs_eq a with ha | ha <;> rcases Int.natAbs_eq b with hb | hb
 all_goals
  generalize a.natAbs = m at *
  generalize b.natAbs = n at *
  subst ha hb
 ·
  have h1 : decide ((m : Int) < 0) = false := decide_eq_false (by omega)
  have h2 : decide ((n : Int) < 0) = false := decide_eq_false (by omega)
  have e1 : (m : Int).tdiv n = ((m / n : Nat) : Int) := (Int.ofNat_tdiv m n).symm
  have e2 : (m : Int).tmod n = ((m % n : Nat) : Int) := (Int.ofNat_tmod m n).symm
  rw [h1, h2, e1, e2]
  simp
 ·
  have h1 : decide ((m : Int) < 0) = false := decide_eq_false (by omega)
  have h2 : decide (-(n : Int) < 0) = true := decide_eq_true (by omega)
  have e1 : (m : Int).tdiv (-(n : Int)) = -((m / n : Nat) : Int) := by rw [Int.tdiv_neg]; rw [Int.ofNat_tdiv]
  have e2 : (m : Int).tmod (-(n : Int)) = ((m % n : Nat) : Int) := by rw [Int.tmod_neg]; exact (Int.ofNat_tmod m n).symm
  rw [h1, h2, e1, e2]
  simp
 ·
  have e1 : (-(m : Int)).tdiv n = -((m / n : Nat) : Int) := by rw [Int.neg_tdiv]; rw [Int.ofNat_tdiv]
  have e2 : (-(m : Int)).tmod n = -((m % n : Nat) : Int) := by rw [Int.neg_tmod]; rw [Int.ofNat_tmod]
  have h2 : decide ((n : Int) < 0) = false := decide_eq_false (by omega)
  rw [h2, e1, e2]
  by_cases hm : m = 0
  ·
   subst hm
   simp
  ·
   have h1 : decide (-(m : Int) < 0) = true := decide_eq_true (by omega)
   rw [h1]
   simp
 ·
  have e1 : (-(m : Int)).tdiv (-(n : Int)) = ((m / n : Nat) : Int) := by rw [Int.neg_tdiv, Int.tdiv_neg, Int.neg_neg]; exact (Int.ofNat_tdiv m n).symm
  have e2 : (-(m : Int)).tmod (-(n : Int)) = -((m % n : Nat) : Int) := by rw [Int.neg_tmod, Int.tmod_neg]; rw [Int.ofNat_tmod]
  have h2 : decide (-(n : Int) < 0) = true := decide_eq_true (by omega)
  rw [h2, e1, e2]
  by_cases hm : m = 0
  ·
   subst hm
   simp
  ·
   have h1 : decide (-(m : Int) < 0) = true := decide_eq_true (by omega)
   rw [h1]
   simp
theorem td_len {a b q1 r1 : Int} {A B : Nat} (h1 : a.tdiv b = q1) (h2 : a.tmod b = r1) (hA : a.natAbs = A) (hB : b.natAbs = B) (hB0 : 0 < B) (hal : A < 65536 ^ 50) (hbl : B < 65536 ^ 50) : (digs q1.natAbs).length ≤ 51 ∧ (digs r1.natAbs).length ≤ 51 ∧ (digs b.natAbs).length ≤ 51 := by
 have hd := td_abs (a := a) (b := b) hB0 hA hB rfl rfl
 rw [h1, h2] at hd
 have hp : (65536 : Nat) ^ 50 ≤ 65536 ^ 51 := Nat.pow_le_pow_right (by decide) (by decide)
 have hq : q1.natAbs = A / B := by
  cases h : (decide (a < 0) != decide (b < 0)) with
  | false => rw [hd.1 h]; rfl
  | true => rw [hd.2.1 h, Int.natAbs_neg]; rfl
 have hr : r1.natAbs = A % B := by
  cases h : decide (a < 0) with
  | false => rw [hd.2.2.1 h]; rfl
  | true => rw [hd.2.2.2 h, Int.natAbs_neg]; rfl
 rw [hq, hr, hB]
 have l1 := Nat.div_le_self A B
 have l2 := Nat.mod_lt A hB0
 exact ⟨digs_le (by omega), digs_le (by omega), digs_le (by omega)⟩
section
variable {w W : World} {Rs : List Res}
theorem radd_at (S : Sep w Rs W) (x y : Int) (sx sy : Value) (hx : SeesD W sx (digs x.natAbs)) (hy : SeesD W sy (digs y.natAbs)) (hl : (digs x.natAbs).length ≤ 4000000) (hk : (digs y.natAbs).length ≤ 4000000) {bx by_ : Bool} (hbx : decide (x < 0) = bx) (hby : decide (y < 0) = by_) {z : Int} (hz : x + y = z) : Calls Tryz.prog 137 #[.agg #[.bool bx, sx], .agg #[.bool by_, sy]] W fun e W' => ∃ va vc, e = .returned (.agg #[.bool (decide (z < 0)), .slice va (digs z.natAbs).length vc]) ∧ Sep w (dR (.slice va (digs z.natAbs).length vc) (digs z.natAbs) :: Rs) W' := by
 subst hz hbx hby
 exact (radd8_ok (Sep.start (Below.refl W.heap.size W)) x y sx sy hx hy hl hk).mono fun e W' ⟨va, vc, e1, T⟩ => ⟨va, vc, e1, S.join T⟩
theorem rneg_at (S : Sep w Rs W) (x : Int) (sx : Value) (hx : SeesD W sx (digs x.natAbs)) (hl : (digs x.natAbs).length ≤ 4000000) {bx : Bool} (hbx : decide (x < 0) = bx) {z : Int} (hz : -x = z) : Calls Tryz.prog 138 #[.agg #[.bool bx, sx]] W fun e W' => ∃ va vc, e = .returned (.agg #[.bool (decide (z < 0)), .slice va (digs z.natAbs).length vc]) ∧ Sep w (dR (.slice va (digs z.natAbs).length vc) (digs z.natAbs) :: Rs) W' := by
 subst hz hbx
 exact (rneg8_ok (Sep.start (Below.refl W.heap.size W)) x sx hx (by omega)).mono fun e W' ⟨va, vc, e1, T⟩ => ⟨va, vc, e1, S.join T⟩
theorem rof8_at (S : Sep w Rs W) (n : Int) (hn : okI n) : Calls Tryz.prog 136 #[.int .i64 n] W fun e W' => ∃ va vc, e = .returned (.agg #[.bool (decide (n < 0)), .slice va (digs n.natAbs).length vc]) ∧ Sep w (dR (.slice va (digs n.natAbs).length vc) (digs n.natAbs) :: Rs) W' :=
 (rof8_ok (Sep.start (Below.refl W.heap.size W)) n hn).mono fun e W' ⟨va, vc, e1, T⟩ => ⟨va, vc, e1, S.join T⟩
/-- Of numbers that are not below 0. -/
theorem raddN_at (S : Sep w Rs W) (x y z : Nat) (sx sy : Value) (hx : SeesD W sx (digs x)) (hy : SeesD W sy (digs y)) (hl : (digs x).length ≤ 4000000) (hk : (digs y).length ≤ 4000000) (hz : x + y = z) : Calls Tryz.prog 137 #[.agg #[.bool false, sx], .agg #[.bool false, sy]] W fun e W' => ∃ va vc, e = .returned (.agg #[.bool false, .slice va (digs z).length vc]) ∧ Sep w (dR (.slice va (digs z).length vc) (digs z) :: Rs) W' :=
 radd_at S (x : Int) (y : Int) sx sy hx hy hl hk (decide_eq_false (by omega)) (decide_eq_false (by omega)) (z := (z : Int)) (by omega) |>.mono fun e W' ⟨va, vc, e1, e2⟩ => ⟨va, vc, by rw [e1, decide_eq_false (show ¬ (z : Int) < 0 by omega)]; rfl, e2⟩
theorem Sep.nilD (S : Sep w Rs W) : Sep w (dR (.slice none 0 0) [] :: Rs) W := S.addRow (Below.refl _ _) (e := 3) (m := 1) (f := natC) (v := .slice none 0 0) (l := []) (World.ownsRow_nil _ _ _ _) (by simp [Value.ownBlock])
theorem rparts_ok (S : Sep w Rs W) (x y : Int) (hb0 : y ≠ 0) (sa sb : Value) (ha : SeesD w sa (digs x.natAbs)) (hb : SeesD w sb (digs y.natAbs)) (hal : x.natAbs < 65536 ^ 50) (hbl : y.natAbs < 65536 ^ 50) : Calls Tryz.prog 140 #[.agg #[.bool (decide (x < 0)), sa], .agg #[.bool (decide (y < 0)), sb]] W fun e W' => ∃ qA qC ra rc, e = .returned (.tuple #[.agg #[.bool (decide ((fdP x y).1 < 0)), .slice qA (digs (fdP x y).1.natAbs).length qC], .agg #[.bool (decide ((fdP x y).2 < 0)), .slice ra (digs (fdP x y).2.natAbs).length rc]]) ∧ Sep w (dR (.slice qA (digs (fdP x y).1.natAbs).length qC) (digs (fdP x y).1.natAbs) :: dR (.slice ra (digs (fdP x y).2.natAbs).length rc) (digs (fdP x y).2.natAbs) :: Rs) W' := by
 have hlx := ha.len
 have hly := hb.len
 have HX := Lib.hid ha
 have HY := Lib.hid hb
 obtain ⟨A, hA⟩ : ∃ A, x.natAbs = A := ⟨_, rfl⟩
 obtain ⟨B, hB⟩ : ∃ B, y.natAbs = B := ⟨_, rfl⟩
 rw [hA] at HX hlx hal
 rw [hB] at HY hly hbl
 have hB0 : 0 < B := by omega
 obtain ⟨L, hL⟩ : ∃ L, (digs A).length = L := ⟨_, rfl⟩
 rw [hL] at hlx
 have hL50 : L ≤ 50 := by rw [← hL]; exact digs_le hal
 obtain ⟨ba, hba⟩ : ∃ q, decide (x < 0) = q := ⟨_, rfl⟩
 obtain ⟨bb, hbb⟩ : ∃ q, decide (y < 0) = q := ⟨_, rfl⟩
 rw [hba, hbb]
 obtain ⟨aa, ac, rfl⟩ : ∃ x y, sa = .slice x L y := by obtain ⟨x, y, e, _⟩ := ha; rw [hA, hL] at e; exact ⟨x, y, e⟩
 have XhA := Lib.hid hA
 have XhB := Lib.hid hB
 have XhB0 := Lib.hid hB0
 have XhL := Lib.hid hL
 have Xhba := Lib.hid hba
 have Xhbb := Lib.hid hbb
 have Xhal := Lib.hid hal
 have Xhbl := Lib.hid hbl
 clear hA hB hB0 hL hba hbb hal hbl ha hb hb0
 obtain ⟨b, hb⟩ : ∃ gx_, (W.heap.size) = gx_ := ⟨_, rfl⟩
 replace S := ((((S.alloc (.cells #[.bool ba, .slice aa L ac] 167)).alloc (.cells #[.bool bb, sb] 167)).alloc (.cells #[.bool false, .slice none 0 0] 167)).alloc (.cells #[.bool false, .slice none 0 0] 167))
 simp only [World.size_alloc, hb] at S
 obtain ⟨bA, hbs⟩ : ∃ l, l = boxR (b + 1) (.cells #[.bool bb, sb] 167) :: boxR b (.cells #[.bool ba, .slice aa L ac] 167) :: Rs := ⟨_, rfl⟩
 have HBS := Lib.hid hbs
 replace S := enterP (w := w) (all := [boxR (b + 1 + 1 + 1) (.cells #[.bool false, .slice none 0 0] 167), boxR (b + 1 + 1) (.cells #[.bool false, .slice none 0 0] 167), boxR (b + 1) (.cells #[.bool bb, sb] 167), boxR b (.cells #[.bool ba, .slice aa L ac] 167)]) (E := [boxR (b + 1 + 1 + 1) (.cells #[.bool false, .slice none 0 0] 167), boxR (b + 1 + 1) (.cells #[.bool false, .slice none 0 0] 167)]) (B := [boxR (b + 1) (.cells #[.bool bb, sb] 167), boxR b (.cells #[.bool ba, .slice aa L ac] 167)]) (Rs := Rs) S hbs (perm_of [0, 1, 2, 3] (by show (List.range' 0 4).Perm [0, 1, 2, 3]; decide) (by rfl))
 have C1 : Hid (∀ W (Q : List Res), Sep w (Q ++ bA) W → W.cell? ⟨b + 1, 0, none⟩ = some (.bool bb) ∧ W.cell? ⟨b + 1, 1, none⟩ = some (sb)) := Lib.hid fun W Q T => by
  rw [hbs] at T
  have i0 := T.box (b := b + 1) (o := .cells #[.bool bb, sb] 167) (Q.length + 0) (atR rfl)
  exact ⟨cellAt i0 0 rfl, cellAt i0 1 rfl⟩
 have C0 : Hid (∀ W (Q : List Res), Sep w (Q ++ bA) W → W.cell? ⟨b, 0, none⟩ = some (.bool ba) ∧ W.cell? ⟨b, 1, none⟩ = some (.slice aa L ac)) := Lib.hid fun W Q T => by
  rw [hbs] at T
  have i0 := T.box (b := b) (o := .cells #[.bool ba, .slice aa L ac] 167) (Q.length + 1) (atR rfl)
  exact ⟨cellAt i0 0 rfl, cellAt i0 1 rfl⟩
 clear hbs
 replace S := Lib.hid S
 go_enter Tryz.func140, Tryz.ntmps140
 go_upto_region 1 with fail
 try simp only [World.size_alloc, hb]
 clear hb
 refine regionL (E := [emptyR, boxR (b + 1 + 1 + 1) (.cells #[.bool false, .slice none 0 0] 167), boxR (b + 1 + 1) (.cells #[.bool false, .slice none 0 0] 167)]) (base := bA) (Sep.putE S.out) ?_
 clear S
 refine qa ?_
 refine allocL 0 rfl (fun q => .pointer (some ⟨q, 0, none⟩)) (.cells #[.bool false, .slice none 0 0] 167) (h1 := fun Wx => by go_simp) (h2 := fun qq61 => ?_); simp only [Act.put, pa]; try dsimp only [List.set]
 try simp only [List.set_cons_zero, List.set_cons_succ]
 refine qd undef [boxR qq61 (.cells #[.bool false, .slice none 0 0] 167), boxR (b + 1 + 1 + 1) (.cells #[.bool false, .slice none 0 0] 167), boxR (b + 1 + 1) (.cells #[.bool false, .slice none 0 0] 167)] (h1 := fun Wx hSw => by (have hz := hSw.box (b := qq61) (o := .cells #[.bool false, .slice none 0 0] 167) 0 rfl; have z0 := cellAt hz 0 (v := .bool false) rfl; have y0 := frozenAt hz 0; have z1 := cellAt hz 1 (v := .slice none 0 0) rfl; have y1 := frozenAt hz 1; go_simp; exact ⟨rfl, (Sep.setBox (cs := #[.bool false, .slice none 0 0]) (t := 167) (Sep.setBox (cs := #[.bool false, .slice none 0 0]) (t := 167) hSw 0 rfl 0 (.bool false)) 0 rfl 1 (.slice none 0 0))⟩)) (h2 := ?_)
 refine doneL (h := fun w1 S => ?_)
 replace S := Lib.hid S
 go_upto_region 2 with fail
 refine regionL (E := [emptyR, boxR qq61 (.cells #[.bool false, .slice none 0 0] 167), boxR (b + 1 + 1 + 1) (.cells #[.bool false, .slice none 0 0] 167), boxR (b + 1 + 1) (.cells #[.bool false, .slice none 0 0] 167)]) (base := bA) (Sep.putE S.out) ?_
 clear S
 refine qa ?_
 refine allocL 0 rfl (fun q => .pointer (some ⟨q, 0, none⟩)) (.cells #[.bool false, .slice none 0 0] 167) (h1 := fun Wx => by go_simp) (h2 := fun qq71 => ?_); simp only [Act.put, pa]; try dsimp only [List.set]
 try simp only [List.set_cons_zero, List.set_cons_succ]
 refine qd undef [boxR qq71 (.cells #[.bool false, .slice none 0 0] 167), boxR qq61 (.cells #[.bool false, .slice none 0 0] 167), boxR (b + 1 + 1 + 1) (.cells #[.bool false, .slice none 0 0] 167), boxR (b + 1 + 1) (.cells #[.bool false, .slice none 0 0] 167)] (h1 := fun Wx hSw => by (have hz := hSw.box (b := qq71) (o := .cells #[.bool false, .slice none 0 0] 167) 0 rfl; have z0 := cellAt hz 0 (v := .bool false) rfl; have y0 := frozenAt hz 0; have z1 := cellAt hz 1 (v := .slice none 0 0) rfl; have y1 := frozenAt hz 1; go_simp; exact ⟨rfl, (Sep.setBox (cs := #[.bool false, .slice none 0 0]) (t := 167) (Sep.setBox (cs := #[.bool false, .slice none 0 0]) (t := 167) hSw 0 rfl 0 (.bool false)) 0 rfl 1 (.slice none 0 0))⟩)) (h2 := ?_)
 refine doneL (h := fun w2 S => ?_)
 replace S := Lib.hid S
 go_upto_region 3 with fail
 refine regionL (E := [emptyR, emptyR, boxR qq71 (.cells #[.bool false, .slice none 0 0] 167), boxR qq61 (.cells #[.bool false, .slice none 0 0] 167), boxR (b + 1 + 1 + 1) (.cells #[.bool false, .slice none 0 0] 167), boxR (b + 1 + 1) (.cells #[.bool false, .slice none 0 0] 167)]) (base := bA) (Sep.putE (Sep.putE S.out)) ?_
 clear S
 refine stepL (fun v E1 => ∃ (va_3_1 : Option Addr) (vc_3_1 : Nat), v = .agg #[.bool false, .slice va_3_1 (digs 1).length vc_3_1] ∧ E1 = [emptyR, dR (.slice va_3_1 (digs 1).length vc_3_1) (digs 1), boxR qq71 (.cells #[.bool false, .slice none 0 0] 167), boxR qq61 (.cells #[.bool false, .slice none 0 0] 167), boxR (b + 1 + 1 + 1) (.cells #[.bool false, .slice none 0 0] 167), boxR (b + 1 + 1) (.cells #[.bool false, .slice none 0 0] 167)]) (h1 := fun Wx hSw => by (go_simp; refine symCallN ?_; have hh := (rof8_at hSw 1 (by decide) : Calls _ _ _ _ (fun e W' => ∃ va vc, e = .returned (.agg #[.bool false, .slice va (digs 1).length vc]) ∧ Sep w (dR (.slice va (digs 1).length vc) (digs 1) :: _) W')); refine hh.mono ?_; rintro e W' ⟨va, vc, e1, e2⟩; refine ⟨_, _, e1, ⟨va, vc, rfl, rfl⟩, ?_⟩; exact Sep.into e2 1 rfl)) (h2 := fun v E1 hvE => ?_)
 obtain ⟨va_3_1, vc_3_1, rfl, rfl⟩ := hvE; simp only [Act.put, pa]; try dsimp only [List.set]
 refine allocL 0 rfl (fun q => .pointer (some ⟨q, 0, none⟩)) (.cells #[.bool false, .slice none 0 0] 167) (h1 := fun Wx => by go_simp) (h2 := fun qq82 => ?_); simp only [Act.put, pa]; try dsimp only [List.set]
 try simp only [List.set_cons_zero, List.set_cons_succ]
 refine qd undef [boxR qq82 (.cells #[.bool false, .slice va_3_1 (digs 1).length vc_3_1] 167), dR (.slice va_3_1 (digs 1).length vc_3_1) (digs 1), boxR qq71 (.cells #[.bool false, .slice none 0 0] 167), boxR qq61 (.cells #[.bool false, .slice none 0 0] 167), boxR (b + 1 + 1 + 1) (.cells #[.bool false, .slice none 0 0] 167), boxR (b + 1 + 1) (.cells #[.bool false, .slice none 0 0] 167)] (h1 := fun Wx hSw => by (have hz := hSw.box (b := qq82) (o := .cells #[.bool false, .slice none 0 0] 167) 0 rfl; have z0 := cellAt hz 0 (v := .bool false) rfl; have y0 := frozenAt hz 0; have z1 := cellAt hz 1 (v := .slice none 0 0) rfl; have y1 := frozenAt hz 1; go_simp; exact ⟨rfl, (Sep.setBox (cs := #[.bool false, .slice none 0 0]) (t := 167) (Sep.setBox (cs := #[.bool false, .slice none 0 0]) (t := 167) hSw 0 rfl 0 (.bool false)) 0 rfl 1 (.slice va_3_1 (digs 1).length vc_3_1))⟩)) (h2 := ?_)
 refine doneL (h := fun w3 S => ?_)
 replace S := Lib.hid S
 have m1 : IntKind.i64.wrap (16 * (L : Int)) = 16 * (L : Int) := IntWalk.i64_in _ (by omega)
 have m2 : IntKind.i64.wrap (16 * (L : Int) - 1) = 16 * (L : Int) - 1 := IntWalk.i64_in _ (by omega)
 go_upto_region 4 with fail
 refine regionL (E := [boxR qq82 (.cells #[.bool false, .slice va_3_1 (digs 1).length vc_3_1] 167), dR (.slice va_3_1 (digs 1).length vc_3_1) (digs 1), boxR qq71 (.cells #[.bool false, .slice none 0 0] 167), boxR qq61 (.cells #[.bool false, .slice none 0 0] 167), boxR (b + 1 + 1 + 1) (.cells #[.bool false, .slice none 0 0] 167), boxR (b + 1 + 1) (.cells #[.bool false, .slice none 0 0] 167)]) (base := bA) S.out ?_
 clear S
 refine qa ?_
 refine qc C0 ?_
 iterate 4 refine qa ?_
 refine doneL (h := fun w4 S => ?_)
 replace S := Lib.hid S
 clear m1 m2
 replace S := S.out.nilD.nilD
 replace S := Lib.hid S
 go_wp2
 go_loopw [9] (fun s9 wr => ∃ (k Q R : Nat) (qA : Option Addr) (qC : Nat) (ra : Option Addr) (rc : Nat), Hid (k ≤ 16 * L ∧ Q = A / 2 ^ k / B ∧ R = A / 2 ^ k % B) ∧ s9 = .int .i64 ((k : Int) - 1) ∧ Sep w ([dR (.slice qA (digs Q).length qC) (digs Q), dR (.slice ra (digs R).length rc) (digs R), boxR qq82 (.cells #[.bool false, .slice va_3_1 (digs 1).length vc_3_1] 167), dR (.slice va_3_1 (digs 1).length vc_3_1) (digs 1), boxR qq71 (.cells #[.bool false, .slice ra (digs R).length rc] 167), boxR qq61 (.cells #[.bool false, .slice qA (digs Q).length qC] 167), boxR (b + 1 + 1 + 1) (.cells #[.bool false, .slice none 0 0] 167), boxR (b + 1 + 1) (.cells #[.bool false, .slice none 0 0] 167)] ++ bA) wr) (fun s9 _ => (intOf s9 + 1).toNat)
 case atStart =>
  have e0 : A / 2 ^ (16 * L) = 0 := by
   refine Nat.div_eq_of_lt ?_
   have h := valD_lt (digs_ok A)
   rw [digs_val, XhL.out, show (65536 : Nat) = 2 ^ 16 by decide, ← Nat.pow_mul] at h; exact h
  exact ⟨16 * L, 0, 0, none, 0, none, 0, Lib.hid ⟨Nat.le_refl _, by rw [e0, Nat.zero_div], by rw [e0, Nat.zero_mod]⟩, by first | rfl | trivial | (congr 1), by simp only [digs_zero, List.length_nil]; exact S.out⟩
 case round =>
  clear S
  obtain ⟨k, Q, R, qA, qC, ra, rc, HK, rfl, S⟩ := hrel
  by_cases h0 : k = 0
  ·
   subst h0
   have e0 : (((0 : Nat) : Int) - 1) = -1 := rfl
   simp only [e0]
   clear e0
   have hQ : Q = A / B := by have := HK.out.2.1; rwa [Nat.pow_zero, Nat.div_one] at this
   have hR : R = A % B := by have := HK.out.2.2; rwa [Nat.pow_zero, Nat.div_one] at this
   have hQA : Q ≤ A := by rw [hQ]; exact Nat.div_le_self _ _
   have hRB : R < B := by rw [hR]; exact Nat.mod_lt _ XhB0.out
   have HQL : Hid ((digs Q).length ≤ 50) := Lib.hid (digs_le (Nat.lt_of_le_of_lt hQA Xhal.out))
   have HRL : Hid ((digs R).length ≤ 50) := Lib.hid (digs_le (Nat.lt_trans hRB Xhbl.out))
   obtain ⟨q1, hq1⟩ : ∃ z, x.tdiv y = z := ⟨_, rfl⟩
   have Xq1 := Lib.hid hq1
   obtain ⟨r1, hr1⟩ : ∃ z, x.tmod y = z := ⟨_, rfl⟩
   have Xr1 := Lib.hid hr1
   have hd := td_abs (a := x) (b := y) XhB0.out XhA.out XhB.out hQ hR
   rw [hq1, hr1, Xhba.out, Xhbb.out] at hd
   have HDV := Lib.hid hd
   obtain ⟨bq, h_bq⟩ : ∃ z, decide (q1 < 0) = z := ⟨_, rfl⟩
   have Xbq := Lib.hid h_bq
   clear h_bq
   obtain ⟨nq, h_nq⟩ : ∃ z, q1.natAbs = z := ⟨_, rfl⟩
   have Xnq := Lib.hid h_nq
   clear h_nq
   obtain ⟨br, h_br⟩ : ∃ z, decide (r1 < 0) = z := ⟨_, rfl⟩
   have Xbr := Lib.hid h_br
   clear h_br
   obtain ⟨nr, h_nr⟩ : ∃ z, r1.natAbs = z := ⟨_, rfl⟩
   have Xnr := Lib.hid h_nr
   clear h_nr
   obtain ⟨sg, h_sg⟩ : ∃ z, (ba != bb) = z := ⟨_, rfl⟩
   have Xsg := Lib.hid h_sg
   clear h_sg
   obtain ⟨qf, h_qf⟩ : ∃ z, (fdP x y).1 = z := ⟨_, rfl⟩
   have Xqf := Lib.hid h_qf
   clear h_qf
   obtain ⟨rf, h_rf⟩ : ∃ z, (fdP x y).2 = z := ⟨_, rfl⟩
   have Xrf := Lib.hid h_rf
   clear h_rf
   clear hQ hR hQA hRB hd hq1 hr1
   replace S := Lib.hid S
   have Xsg2 : Hid ((!(ba == bb)) = sg) := Lib.hid (by rw [← Xsg.out]; cases ba <;> cases bb <;> rfl)
   go_upto_region 14 with fail
   refine regionL (E := [dR (.slice qA (digs Q).length qC) (digs Q), dR (.slice ra (digs R).length rc) (digs R), boxR qq82 (.cells #[.bool false, .slice va_3_1 (digs 1).length vc_3_1] 167), dR (.slice va_3_1 (digs 1).length vc_3_1) (digs 1), boxR qq71 (.cells #[.bool false, .slice ra (digs R).length rc] 167), boxR qq61 (.cells #[.bool false, .slice qA (digs Q).length qC] 167), boxR (b + 1 + 1 + 1) (.cells #[.bool false, .slice none 0 0] 167), boxR (b + 1 + 1) (.cells #[.bool false, .slice none 0 0] 167)]) (base := bA) S.out ?_
   clear S
   refine qa ?_
   refine qc C0 ?_
   refine qa ?_
   refine qc C1 ?_
   refine qa (v := .bool sg) (hy := fun E Wx hSw => by (go_simp; rw [Xsg2.out]; exact ⟨rfl, hSw⟩)) (h := ?_)
   refine doneL (h := fun w5 S => ?_)
   replace S := Lib.hid S
   go_upto_if 61 with fail
   go_cut [] (fun wx => ∃ (qA : Option Addr) (qC : Nat), Sep w ([dR (.slice qA (digs nq).length qC) (digs nq), dR (.slice ra (digs R).length rc) (digs R), boxR qq82 (.cells #[.bool false, .slice va_3_1 (digs 1).length vc_3_1] 167), dR (.slice va_3_1 (digs 1).length vc_3_1) (digs 1), boxR qq71 (.cells #[.bool false, .slice ra (digs R).length rc] 167), boxR qq61 (.cells #[.bool bq, .slice qA (digs nq).length qC] 167), boxR (b + 1 + 1 + 1) (.cells #[.bool false, .slice none 0 0] 167), boxR (b + 1 + 1) (.cells #[.bool false, .slice none 0 0] 167)] ++ bA) wx)
   case first =>
    cases sg with
    | false =>
     have e1 : q1 = (Q : Int) := HDV.out.1 Xsg.out
     have e2 : nq = Q := by rw [← Xnq.out, e1]; rfl
     have e3 : bq = false := by rw [← Xbq.out, e1]; exact decide_eq_false (by omega)
     subst e2 e3
     go_wp2_with fail; go_meet; exact ⟨_, _, S.out⟩
    | true =>
     have HZ : Hid (-(Q : Int) = q1) := Lib.hid (HDV.out.2.1 Xsg.out).symm
     go_upto_region 15 with fail
     refine regionL (E := [dR (.slice qA (digs Q).length qC) (digs Q), dR (.slice ra (digs R).length rc) (digs R), boxR qq82 (.cells #[.bool false, .slice va_3_1 (digs 1).length vc_3_1] 167), dR (.slice va_3_1 (digs 1).length vc_3_1) (digs 1), boxR qq71 (.cells #[.bool false, .slice ra (digs R).length rc] 167), boxR qq61 (.cells #[.bool false, .slice qA (digs Q).length qC] 167), boxR (b + 1 + 1 + 1) (.cells #[.bool false, .slice none 0 0] 167), boxR (b + 1 + 1) (.cells #[.bool false, .slice none 0 0] 167)]) (base := bA) S.out ?_
     clear S
     refine qd _ [dR (.slice qA (digs Q).length qC) (digs Q), dR (.slice ra (digs R).length rc) (digs R), boxR qq82 (.cells #[.bool false, .slice va_3_1 (digs 1).length vc_3_1] 167), dR (.slice va_3_1 (digs 1).length vc_3_1) (digs 1), boxR qq71 (.cells #[.bool false, .slice ra (digs R).length rc] 167), boxR qq61 (.cells #[.bool false, .slice qA (digs Q).length qC] 167), boxR (b + 1 + 1 + 1) (.cells #[.bool false, .slice none 0 0] 167), boxR (b + 1 + 1) (.cells #[.bool false, .slice none 0 0] 167)] (h1 := fun Wx hSw => by (have hz := hSw.box (b := qq61) (o := .cells #[.bool false, .slice qA (digs Q).length qC] 167) 5 rfl; have z0 := cellAt hz 0 (v := .bool false) rfl; have z1 := cellAt hz 1 (v := .slice qA (digs Q).length qC) rfl; go_simp; exact ⟨rfl, hSw⟩)) (h2 := ?_)
     refine stepL (fun v E1 => ∃ (va_6_2 : Option Addr) (vc_6_2 : Nat), v = .agg #[.bool bq, .slice va_6_2 (digs nq).length vc_6_2] ∧ E1 = [dR (.slice va_6_2 (digs nq).length vc_6_2) (digs nq), dR (.slice ra (digs R).length rc) (digs R), boxR qq82 (.cells #[.bool false, .slice va_3_1 (digs 1).length vc_3_1] 167), dR (.slice va_3_1 (digs 1).length vc_3_1) (digs 1), boxR qq71 (.cells #[.bool false, .slice ra (digs R).length rc] 167), boxR qq61 (.cells #[.bool false, .slice qA (digs Q).length qC] 167), boxR (b + 1 + 1 + 1) (.cells #[.bool false, .slice none 0 0] 167), boxR (b + 1 + 1) (.cells #[.bool false, .slice none 0 0] 167)]) (h1 := fun Wx hSw => by (go_simp; refine symCallN ?_; have hh := rneg_at hSw (Q : Int) _ (hSw.seesD 0 rfl) (show (digs Q).length ≤ 4000000 by have := HQL.out; omega) (bx := false) (decide_eq_false (by omega)) (z := q1) HZ.out; rw [Xbq.out, Xnq.out] at hh; refine hh.mono ?_; rintro e W' ⟨va, vc, e1, e2⟩; refine ⟨_, _, e1, ⟨va, vc, rfl, rfl⟩, ?_⟩; exact Sep.into e2 0 rfl)) (h2 := fun v E1 hvE => ?_)
     obtain ⟨va_6_2, vc_6_2, rfl, rfl⟩ := hvE; simp only [Act.put, pa]; try dsimp only [List.set]
     refine qd undef [dR (.slice va_6_2 (digs nq).length vc_6_2) (digs nq), dR (.slice ra (digs R).length rc) (digs R), boxR qq82 (.cells #[.bool false, .slice va_3_1 (digs 1).length vc_3_1] 167), dR (.slice va_3_1 (digs 1).length vc_3_1) (digs 1), boxR qq71 (.cells #[.bool false, .slice ra (digs R).length rc] 167), boxR qq61 (.cells #[.bool bq, .slice va_6_2 (digs nq).length vc_6_2] 167), boxR (b + 1 + 1 + 1) (.cells #[.bool false, .slice none 0 0] 167), boxR (b + 1 + 1) (.cells #[.bool false, .slice none 0 0] 167)] (h1 := fun Wx hSw => by (have hz := hSw.box (b := qq61) (o := .cells #[.bool false, .slice qA (digs Q).length qC] 167) 5 rfl; have z0 := cellAt hz 0 (v := .bool false) rfl; have y0 := frozenAt hz 0; have z1 := cellAt hz 1 (v := .slice qA (digs Q).length qC) rfl; have y1 := frozenAt hz 1; go_simp; exact ⟨rfl, (Sep.setBox (cs := #[.bool bq, .slice qA (digs Q).length qC]) (t := 167) (Sep.setBox (cs := #[.bool false, .slice qA (digs Q).length qC]) (t := 167) hSw 5 rfl 0 (.bool bq)) 5 rfl 1 (.slice va_6_2 (digs nq).length vc_6_2))⟩)) (h2 := ?_)
     refine doneL (h := fun w6 S => ?_)
     replace S := Lib.hid S
     go_wp2_with fail; go_meet; exact ⟨_, _, S.out⟩
   case rest =>
    obtain ⟨qA, qC, S⟩ := hcut
    replace S := Lib.hid S
    go_upto_region 16 with fail
    refine regionL (E := [dR (.slice qA (digs nq).length qC) (digs nq), dR (.slice ra (digs R).length rc) (digs R), boxR qq82 (.cells #[.bool false, .slice va_3_1 (digs 1).length vc_3_1] 167), dR (.slice va_3_1 (digs 1).length vc_3_1) (digs 1), boxR qq71 (.cells #[.bool false, .slice ra (digs R).length rc] 167), boxR qq61 (.cells #[.bool bq, .slice qA (digs nq).length qC] 167), boxR (b + 1 + 1 + 1) (.cells #[.bool false, .slice none 0 0] 167), boxR (b + 1 + 1) (.cells #[.bool false, .slice none 0 0] 167)]) (base := bA) S.out ?_
    clear S
    refine qa ?_
    refine qc C0 ?_
    refine doneL (h := fun w7 S => ?_)
    replace S := Lib.hid S
    go_upto_if 65 with fail
    go_cut [] (fun wx => ∃ (ra : Option Addr) (rc : Nat), Sep w ([dR (.slice qA (digs nq).length qC) (digs nq), dR (.slice ra (digs nr).length rc) (digs nr), boxR qq82 (.cells #[.bool false, .slice va_3_1 (digs 1).length vc_3_1] 167), dR (.slice va_3_1 (digs 1).length vc_3_1) (digs 1), boxR qq71 (.cells #[.bool br, .slice ra (digs nr).length rc] 167), boxR qq61 (.cells #[.bool bq, .slice qA (digs nq).length qC] 167), boxR (b + 1 + 1 + 1) (.cells #[.bool false, .slice none 0 0] 167), boxR (b + 1 + 1) (.cells #[.bool false, .slice none 0 0] 167)] ++ bA) wx)
    case first =>
     cases ba with
     | false =>
      have e1 : r1 = (R : Int) := HDV.out.2.2.1 rfl
      have e2 : nr = R := by rw [← Xnr.out, e1]; rfl
      have e3 : br = false := by rw [← Xbr.out, e1]; exact decide_eq_false (by omega)
      subst e2 e3
      go_wp2_with fail; go_meet; exact ⟨_, _, S.out⟩
     | true =>
      have HZ : Hid (-(R : Int) = r1) := Lib.hid (HDV.out.2.2.2 rfl).symm
      go_upto_region 17 with fail
      refine regionL (E := [dR (.slice qA (digs nq).length qC) (digs nq), dR (.slice ra (digs R).length rc) (digs R), boxR qq82 (.cells #[.bool false, .slice va_3_1 (digs 1).length vc_3_1] 167), dR (.slice va_3_1 (digs 1).length vc_3_1) (digs 1), boxR qq71 (.cells #[.bool false, .slice ra (digs R).length rc] 167), boxR qq61 (.cells #[.bool bq, .slice qA (digs nq).length qC] 167), boxR (b + 1 + 1 + 1) (.cells #[.bool false, .slice none 0 0] 167), boxR (b + 1 + 1) (.cells #[.bool false, .slice none 0 0] 167)]) (base := bA) S.out ?_
      clear S
      refine qd _ [dR (.slice qA (digs nq).length qC) (digs nq), dR (.slice ra (digs R).length rc) (digs R), boxR qq82 (.cells #[.bool false, .slice va_3_1 (digs 1).length vc_3_1] 167), dR (.slice va_3_1 (digs 1).length vc_3_1) (digs 1), boxR qq71 (.cells #[.bool false, .slice ra (digs R).length rc] 167), boxR qq61 (.cells #[.bool bq, .slice qA (digs nq).length qC] 167), boxR (b + 1 + 1 + 1) (.cells #[.bool false, .slice none 0 0] 167), boxR (b + 1 + 1) (.cells #[.bool false, .slice none 0 0] 167)] (h1 := fun Wx hSw => by (have hz := hSw.box (b := qq71) (o := .cells #[.bool false, .slice ra (digs R).length rc] 167) 4 rfl; have z0 := cellAt hz 0 (v := .bool false) rfl; have z1 := cellAt hz 1 (v := .slice ra (digs R).length rc) rfl; go_simp; exact ⟨rfl, hSw⟩)) (h2 := ?_)
      refine stepL (fun v E1 => ∃ (va_8_2 : Option Addr) (vc_8_2 : Nat), v = .agg #[.bool br, .slice va_8_2 (digs nr).length vc_8_2] ∧ E1 = [dR (.slice qA (digs nq).length qC) (digs nq), dR (.slice va_8_2 (digs nr).length vc_8_2) (digs nr), boxR qq82 (.cells #[.bool false, .slice va_3_1 (digs 1).length vc_3_1] 167), dR (.slice va_3_1 (digs 1).length vc_3_1) (digs 1), boxR qq71 (.cells #[.bool false, .slice ra (digs R).length rc] 167), boxR qq61 (.cells #[.bool bq, .slice qA (digs nq).length qC] 167), boxR (b + 1 + 1 + 1) (.cells #[.bool false, .slice none 0 0] 167), boxR (b + 1 + 1) (.cells #[.bool false, .slice none 0 0] 167)]) (h1 := fun Wx hSw => by (go_simp; refine symCallN ?_; have hh := rneg_at hSw (R : Int) _ (hSw.seesD 1 rfl) (show (digs R).length ≤ 4000000 by have := HRL.out; omega) (bx := false) (decide_eq_false (by omega)) (z := r1) HZ.out; rw [Xbr.out, Xnr.out] at hh; refine hh.mono ?_; rintro e W' ⟨va, vc, e1, e2⟩; refine ⟨_, _, e1, ⟨va, vc, rfl, rfl⟩, ?_⟩; exact Sep.into e2 1 rfl)) (h2 := fun v E1 hvE => ?_)
      obtain ⟨va_8_2, vc_8_2, rfl, rfl⟩ := hvE; simp only [Act.put, pa]; try dsimp only [List.set]
      refine qd undef [dR (.slice qA (digs nq).length qC) (digs nq), dR (.slice va_8_2 (digs nr).length vc_8_2) (digs nr), boxR qq82 (.cells #[.bool false, .slice va_3_1 (digs 1).length vc_3_1] 167), dR (.slice va_3_1 (digs 1).length vc_3_1) (digs 1), boxR qq71 (.cells #[.bool br, .slice va_8_2 (digs nr).length vc_8_2] 167), boxR qq61 (.cells #[.bool bq, .slice qA (digs nq).length qC] 167), boxR (b + 1 + 1 + 1) (.cells #[.bool false, .slice none 0 0] 167), boxR (b + 1 + 1) (.cells #[.bool false, .slice none 0 0] 167)] (h1 := fun Wx hSw => by (have hz := hSw.box (b := qq71) (o := .cells #[.bool false, .slice ra (digs R).length rc] 167) 4 rfl; have z0 := cellAt hz 0 (v := .bool false) rfl; have y0 := frozenAt hz 0; have z1 := cellAt hz 1 (v := .slice ra (digs R).length rc) rfl; have y1 := frozenAt hz 1; go_simp; exact ⟨rfl, (Sep.setBox (cs := #[.bool br, .slice ra (digs R).length rc]) (t := 167) (Sep.setBox (cs := #[.bool false, .slice ra (digs R).length rc]) (t := 167) hSw 4 rfl 0 (.bool br)) 4 rfl 1 (.slice va_8_2 (digs nr).length vc_8_2))⟩)) (h2 := ?_)
      refine doneL (h := fun w8 S => ?_)
      replace S := Lib.hid S
      go_wp2_with fail; go_meet; exact ⟨_, _, S.out⟩
    case rest =>
     obtain ⟨ra, rc, S⟩ := hcut
     replace S := Lib.hid S
     obtain ⟨ad, had⟩ : ∃ q, decide (r1 ≠ 0 ∧ decide (r1 < 0) ≠ decide (y < 0)) = q := ⟨_, rfl⟩
     have HAD := Lib.hid had
     clear had
     have hfd : fdP x y = if ad = true then (q1 - 1, r1 + y) else (q1, r1) := by unfold fdP; rw [Xq1.out, Xr1.out, ← HAD.out]; simp only [decide_eq_true_eq]
     have HFD := Lib.hid hfd
     clear hfd
     obtain ⟨lr, hlr⟩ : ∃ n, (digs nr).length = n := ⟨_, rfl⟩
     have HLR := Lib.hid hlr
     clear hlr
     go_upto_region 18 with fail
     go_cut [78] (fun s78 wx => s78 = .bool ad ∧ Sep w ([dR (.slice qA (digs nq).length qC) (digs nq), dR (.slice ra (digs nr).length rc) (digs nr), boxR qq82 (.cells #[.bool false, .slice va_3_1 (digs 1).length vc_3_1] 167), dR (.slice va_3_1 (digs 1).length vc_3_1) (digs 1), boxR qq71 (.cells #[.bool br, .slice ra (digs nr).length rc] 167), boxR qq61 (.cells #[.bool bq, .slice qA (digs nq).length qC] 167), boxR (b + 1 + 1 + 1) (.cells #[.bool false, .slice none 0 0] 167), boxR (b + 1 + 1) (.cells #[.bool false, .slice none 0 0] 167)] ++ bA) wx)
     case first =>
      by_cases hz : r1 = 0
      ·
       have hnr : nr = 0 := by rw [← Xnr.out, hz]; rfl
       have HL0 : Hid (decide (0 < (digs nr).length) = false) := Lib.hid (by rw [hnr, digs_zero]; rfl)
       obtain rfl : ad = false := by rw [← HAD.out]; simp [hz]
       clear hz hnr
       refine regionL (E := [dR (.slice qA (digs nq).length qC) (digs nq), dR (.slice ra (digs nr).length rc) (digs nr), boxR qq82 (.cells #[.bool false, .slice va_3_1 (digs 1).length vc_3_1] 167), dR (.slice va_3_1 (digs 1).length vc_3_1) (digs 1), boxR qq71 (.cells #[.bool br, .slice ra (digs nr).length rc] 167), boxR qq61 (.cells #[.bool bq, .slice qA (digs nq).length qC] 167), boxR (b + 1 + 1 + 1) (.cells #[.bool false, .slice none 0 0] 167), boxR (b + 1 + 1) (.cells #[.bool false, .slice none 0 0] 167)]) (base := bA) S.out ?_
       clear S
       refine qa ?_
       refine qd _ [dR (.slice qA (digs nq).length qC) (digs nq), dR (.slice ra (digs nr).length rc) (digs nr), boxR qq82 (.cells #[.bool false, .slice va_3_1 (digs 1).length vc_3_1] 167), dR (.slice va_3_1 (digs 1).length vc_3_1) (digs 1), boxR qq71 (.cells #[.bool br, .slice ra (digs nr).length rc] 167), boxR qq61 (.cells #[.bool bq, .slice qA (digs nq).length qC] 167), boxR (b + 1 + 1 + 1) (.cells #[.bool false, .slice none 0 0] 167), boxR (b + 1 + 1) (.cells #[.bool false, .slice none 0 0] 167)] (h1 := fun Wx hSw => by (have hz := hSw.box (b := qq71) (o := .cells #[.bool br, .slice ra (digs nr).length rc] 167) 4 rfl; have z0 := cellAt hz 0 (v := .bool br) rfl; have z1 := cellAt hz 1 (v := .slice ra (digs nr).length rc) rfl; go_simp; exact ⟨rfl, hSw⟩)) (h2 := ?_)
       refine qa ?_
       refine qa (v := .bool false) (hy := fun E Wx hSw => by (go_simp; rw [HL0.out]; exact ⟨rfl, hSw⟩)) (h := ?_)
       refine qa ?_
       iterate 5 refine qz ?_
       refine qa ?_
       refine doneL (h := fun w9 S => ?_)
       replace S := Lib.hid S
       go_wp2_with fail
       go_meet
       exact ⟨rfl, S.out⟩
      ·
       have HL0 : Hid (decide (0 < (digs nr).length) = true) := Lib.hid (decide_eq_true (by rcases Nat.eq_zero_or_pos (digs nr).length with h | h; exact absurd (by have := digs_len.1 h; rw [← Xnr.out] at this; omega) hz; exact h))
       have hadq : (!(br == bb)) = ad := by rw [← HAD.out, ← Xbr.out, ← Xhbb.out]; cases decide (r1 < 0) <;> cases decide (y < 0) <;> simp [hz]
       have HADQ := Lib.hid hadq
       clear hz hadq
       refine regionL (E := [dR (.slice qA (digs nq).length qC) (digs nq), dR (.slice ra (digs nr).length rc) (digs nr), boxR qq82 (.cells #[.bool false, .slice va_3_1 (digs 1).length vc_3_1] 167), dR (.slice va_3_1 (digs 1).length vc_3_1) (digs 1), boxR qq71 (.cells #[.bool br, .slice ra (digs nr).length rc] 167), boxR qq61 (.cells #[.bool bq, .slice qA (digs nq).length qC] 167), boxR (b + 1 + 1 + 1) (.cells #[.bool false, .slice none 0 0] 167), boxR (b + 1 + 1) (.cells #[.bool false, .slice none 0 0] 167)]) (base := bA) S.out ?_
       clear S
       refine qa ?_
       refine qd _ [dR (.slice qA (digs nq).length qC) (digs nq), dR (.slice ra (digs nr).length rc) (digs nr), boxR qq82 (.cells #[.bool false, .slice va_3_1 (digs 1).length vc_3_1] 167), dR (.slice va_3_1 (digs 1).length vc_3_1) (digs 1), boxR qq71 (.cells #[.bool br, .slice ra (digs nr).length rc] 167), boxR qq61 (.cells #[.bool bq, .slice qA (digs nq).length qC] 167), boxR (b + 1 + 1 + 1) (.cells #[.bool false, .slice none 0 0] 167), boxR (b + 1 + 1) (.cells #[.bool false, .slice none 0 0] 167)] (h1 := fun Wx hSw => by (have hz := hSw.box (b := qq71) (o := .cells #[.bool br, .slice ra (digs nr).length rc] 167) 4 rfl; have z0 := cellAt hz 0 (v := .bool br) rfl; have z1 := cellAt hz 1 (v := .slice ra (digs nr).length rc) rfl; go_simp; exact ⟨rfl, hSw⟩)) (h2 := ?_)
       refine qa ?_
       refine qa (v := .bool true) (hy := fun E Wx hSw => by (go_simp; rw [HL0.out]; exact ⟨rfl, hSw⟩)) (h := ?_)
       iterate 2 refine qa ?_
       refine qd _ [dR (.slice qA (digs nq).length qC) (digs nq), dR (.slice ra (digs nr).length rc) (digs nr), boxR qq82 (.cells #[.bool false, .slice va_3_1 (digs 1).length vc_3_1] 167), dR (.slice va_3_1 (digs 1).length vc_3_1) (digs 1), boxR qq71 (.cells #[.bool br, .slice ra (digs nr).length rc] 167), boxR qq61 (.cells #[.bool bq, .slice qA (digs nq).length qC] 167), boxR (b + 1 + 1 + 1) (.cells #[.bool false, .slice none 0 0] 167), boxR (b + 1 + 1) (.cells #[.bool false, .slice none 0 0] 167)] (h1 := fun Wx hSw => by (have hz := hSw.box (b := qq71) (o := .cells #[.bool br, .slice ra (digs nr).length rc] 167) 4 rfl; have z0 := cellAt hz 0 (v := .bool br) rfl; have z1 := cellAt hz 1 (v := .slice ra (digs nr).length rc) rfl; go_simp; exact ⟨rfl, hSw⟩)) (h2 := ?_)
       refine qa ?_
       refine qc C1 ?_
       refine qa (v := .bool ad) (hy := fun E Wx hSw => by (go_simp; rw [HADQ.out]; exact ⟨rfl, hSw⟩)) (h := ?_)
       refine qa ?_
       refine doneL (h := fun w10 S => ?_)
       replace S := Lib.hid S
       go_wp2_with fail
       go_meet
       exact ⟨rfl, S.out⟩
     case rest =>
      obtain ⟨rfl, S⟩ := hcut
      replace S := Lib.hid S
      obtain ⟨bqf, h_bqf⟩ : ∃ z, decide (qf < 0) = z := ⟨_, rfl⟩
      have Xbqf := Lib.hid h_bqf
      clear h_bqf
      obtain ⟨nqf, h_nqf⟩ : ∃ z, qf.natAbs = z := ⟨_, rfl⟩
      have Xnqf := Lib.hid h_nqf
      clear h_nqf
      obtain ⟨brf, h_brf⟩ : ∃ z, decide (rf < 0) = z := ⟨_, rfl⟩
      have Xbrf := Lib.hid h_brf
      clear h_brf
      obtain ⟨nrf, h_nrf⟩ : ∃ z, rf.natAbs = z := ⟨_, rfl⟩
      have Xnrf := Lib.hid h_nrf
      clear h_nrf
      go_upto_if 78 with fail
      go_cut [] (fun wx => ∃ (qA : Option Addr) (qC : Nat) (ra : Option Addr) (rc : Nat), Sep w ([dR (.slice qA (digs nqf).length qC) (digs nqf), dR (.slice ra (digs nrf).length rc) (digs nrf), boxR qq82 (.cells #[.bool false, .slice va_3_1 (digs 1).length vc_3_1] 167), dR (.slice va_3_1 (digs 1).length vc_3_1) (digs 1), boxR qq71 (.cells #[.bool brf, .slice ra (digs nrf).length rc] 167), boxR qq61 (.cells #[.bool bqf, .slice qA (digs nqf).length qC] 167), boxR (b + 1 + 1 + 1) (.cells #[.bool false, .slice none 0 0] 167), boxR (b + 1 + 1) (.cells #[.bool false, .slice none 0 0] 167)] ++ bA) wx)
      case first =>
       cases ad with
       | false =>
        have e0 : qf = q1 ∧ rf = r1 := by rw [← Xqf.out, ← Xrf.out, HFD.out]; exact ⟨rfl, rfl⟩
        obtain rfl : bqf = bq := by rw [← Xbqf.out, e0.1, Xbq.out]
        obtain rfl : nqf = nq := by rw [← Xnqf.out, e0.1, Xnq.out]
        obtain rfl : brf = br := by rw [← Xbrf.out, e0.2, Xbr.out]
        obtain rfl : nrf = nr := by rw [← Xnrf.out, e0.2, Xnr.out]
        go_wp2_with fail; go_meet; exact ⟨_, _, _, _, S.out⟩
       | true =>
        have e0 : qf = q1 - 1 ∧ rf = r1 + y := by rw [← Xqf.out, ← Xrf.out, HFD.out]; exact ⟨rfl, rfl⟩
        have HZ1 : Hid (q1 + -1 = qf) := Lib.hid (by rw [e0.1]; omega)
        have HZ2 : Hid (r1 + y = rf) := Lib.hid e0.2.symm
        clear e0
        have HNL : Hid ((digs q1.natAbs).length ≤ 51 ∧ (digs r1.natAbs).length ≤ 51 ∧ (digs y.natAbs).length ≤ 51) := Lib.hid (td_len Xq1.out Xr1.out XhA.out XhB.out XhB0.out Xhal.out Xhbl.out)
        go_upto_region 19 with fail
        go_cut [] (fun  wx => ∃ (m9a : Option Addr) (m9c : Nat) (q9a : Option Addr) (q9c : Nat), Sep w ([dR (.slice m9a (digs 1).length m9c) (digs 1), dR (.slice q9a (digs nqf).length q9c) (digs nqf), dR (.slice ra (digs nr).length rc) (digs nr), boxR qq82 (.cells #[.bool false, .slice va_3_1 (digs 1).length vc_3_1] 167), dR (.slice va_3_1 (digs 1).length vc_3_1) (digs 1), boxR qq71 (.cells #[.bool br, .slice ra (digs nr).length rc] 167), boxR qq61 (.cells #[.bool bqf, .slice q9a (digs nqf).length q9c] 167), boxR (b + 1 + 1 + 1) (.cells #[.bool false, .slice none 0 0] 167), boxR (b + 1 + 1) (.cells #[.bool false, .slice none 0 0] 167)] ++ bA) wx)
        case first =>
         refine regionS (E := [emptyR, dR (.slice qA (digs nq).length qC) (digs nq), dR (.slice ra (digs nr).length rc) (digs nr), boxR qq82 (.cells #[.bool false, .slice va_3_1 (digs 1).length vc_3_1] 167), dR (.slice va_3_1 (digs 1).length vc_3_1) (digs 1), boxR qq71 (.cells #[.bool br, .slice ra (digs nr).length rc] 167), boxR qq61 (.cells #[.bool bq, .slice qA (digs nq).length qC] 167), boxR (b + 1 + 1 + 1) (.cells #[.bool false, .slice none 0 0] 167), boxR (b + 1 + 1) (.cells #[.bool false, .slice none 0 0] 167)]) (base := bA) (Sep.putE S.out) ?_
         clear S
         refine readyS [0, 1] ?_
         refine detS _ [emptyR, dR (.slice qA (digs nq).length qC) (digs nq), dR (.slice ra (digs nr).length rc) (digs nr), boxR qq82 (.cells #[.bool false, .slice va_3_1 (digs 1).length vc_3_1] 167), dR (.slice va_3_1 (digs 1).length vc_3_1) (digs 1), boxR qq71 (.cells #[.bool br, .slice ra (digs nr).length rc] 167), boxR qq61 (.cells #[.bool bq, .slice qA (digs nq).length qC] 167), boxR (b + 1 + 1 + 1) (.cells #[.bool false, .slice none 0 0] 167), boxR (b + 1 + 1) (.cells #[.bool false, .slice none 0 0] 167)] (h1 := fun Wx hSw => by (have hz := hSw.box (b := qq61) (o := .cells #[.bool bq, .slice qA (digs nq).length qC] 167) 6 rfl; have z0 := cellAt hz 0 (v := .bool bq) rfl; have z1 := cellAt hz 1 (v := .slice qA (digs nq).length qC) rfl; go_simp; exact ⟨rfl, hSw⟩)) (h2 := ?_) (hs := ?_)
         ·
          simp only [Act.put, pa]; try dsimp only [List.set]
          refine readyS [1] ?_
          refine stepS (fun v E1 => ∃ (va_11_2 : Option Addr) (vc_11_2 : Nat), v = .agg #[.bool true, .slice va_11_2 (digs 1).length vc_11_2] ∧ E1 = [dR (.slice va_11_2 (digs 1).length vc_11_2) (digs 1), dR (.slice qA (digs nq).length qC) (digs nq), dR (.slice ra (digs nr).length rc) (digs nr), boxR qq82 (.cells #[.bool false, .slice va_3_1 (digs 1).length vc_3_1] 167), dR (.slice va_3_1 (digs 1).length vc_3_1) (digs 1), boxR qq71 (.cells #[.bool br, .slice ra (digs nr).length rc] 167), boxR qq61 (.cells #[.bool bq, .slice qA (digs nq).length qC] 167), boxR (b + 1 + 1 + 1) (.cells #[.bool false, .slice none 0 0] 167), boxR (b + 1 + 1) (.cells #[.bool false, .slice none 0 0] 167)]) (h1 := fun Wx hSw => by (go_simp; refine symCallN ?_; have hh := rof8_at hSw (-1) (by decide); refine hh.mono ?_; rintro e W' ⟨va, vc, e1, e2⟩; refine ⟨_, _, e1, ⟨va, vc, rfl, rfl⟩, ?_⟩; exact Sep.into e2 0 rfl)) (h2 := fun v E1 hvE => ?_) (hs := nilS)
          obtain ⟨va_11_2, vc_11_2, rfl, rfl⟩ := hvE; simp only [Act.put, pa]; try dsimp only [List.set]
          refine readyS [2] ?_
          refine stepS (fun v E1 => ∃ (va_11_3 : Option Addr) (vc_11_3 : Nat), v = .agg #[.bool bqf, .slice va_11_3 (digs nqf).length vc_11_3] ∧ E1 = [dR (.slice va_11_2 (digs 1).length vc_11_2) (digs 1), dR (.slice va_11_3 (digs nqf).length vc_11_3) (digs nqf), dR (.slice ra (digs nr).length rc) (digs nr), boxR qq82 (.cells #[.bool false, .slice va_3_1 (digs 1).length vc_3_1] 167), dR (.slice va_3_1 (digs 1).length vc_3_1) (digs 1), boxR qq71 (.cells #[.bool br, .slice ra (digs nr).length rc] 167), boxR qq61 (.cells #[.bool bq, .slice qA (digs nq).length qC] 167), boxR (b + 1 + 1 + 1) (.cells #[.bool false, .slice none 0 0] 167), boxR (b + 1 + 1) (.cells #[.bool false, .slice none 0 0] 167)]) (h1 := fun Wx hSw => by (go_simp; refine symCallN ?_; have hh := radd_at hSw q1 (-1) _ _ (show SeesD _ _ (digs q1.natAbs) by rw [Xnq.out]; exact hSw.seesD 1 rfl) (show SeesD _ _ (digs 1) from hSw.seesD 0 rfl) (by have := HNL.out.1; omega) (by show (digs 1).length ≤ 4000000; have := digs_le (k := 1) (n := 1) (by decide); omega) (bx := bq) (by_ := true) Xbq.out (by decide) (z := qf) HZ1.out; rw [Xbqf.out, Xnqf.out] at hh; refine hh.mono ?_; rintro e W' ⟨va, vc, e1, e2⟩; refine ⟨_, _, e1, ⟨va, vc, rfl, rfl⟩, ?_⟩; exact Sep.into e2 1 rfl)) (h2 := fun v E1 hvE => ?_) (hs := nilS)
          obtain ⟨va_11_3, vc_11_3, rfl, rfl⟩ := hvE; simp only [Act.put, pa]; try dsimp only [List.set]
          refine readyS [3] ?_
          refine detS undef [dR (.slice va_11_2 (digs 1).length vc_11_2) (digs 1), dR (.slice va_11_3 (digs nqf).length vc_11_3) (digs nqf), dR (.slice ra (digs nr).length rc) (digs nr), boxR qq82 (.cells #[.bool false, .slice va_3_1 (digs 1).length vc_3_1] 167), dR (.slice va_3_1 (digs 1).length vc_3_1) (digs 1), boxR qq71 (.cells #[.bool br, .slice ra (digs nr).length rc] 167), boxR qq61 (.cells #[.bool bqf, .slice va_11_3 (digs nqf).length vc_11_3] 167), boxR (b + 1 + 1 + 1) (.cells #[.bool false, .slice none 0 0] 167), boxR (b + 1 + 1) (.cells #[.bool false, .slice none 0 0] 167)] (h1 := fun Wx hSw => by (have hz := hSw.box (b := qq61) (o := .cells #[.bool bq, .slice qA (digs nq).length qC] 167) 6 rfl; have z0 := cellAt hz 0 (v := .bool bq) rfl; have y0 := frozenAt hz 0; have z1 := cellAt hz 1 (v := .slice qA (digs nq).length qC) rfl; have y1 := frozenAt hz 1; go_simp; exact ⟨rfl, (Sep.setBox (cs := #[.bool bqf, .slice qA (digs nq).length qC]) (t := 167) (Sep.setBox (cs := #[.bool bq, .slice qA (digs nq).length qC]) (t := 167) hSw 6 rfl 0 (.bool bqf)) 6 rfl 1 (.slice va_11_3 (digs nqf).length vc_11_3))⟩)) (h2 := ?_) (hs := nilS); simp only [Act.put, pa]; try dsimp only [List.set]
          refine doneS (h := fun w11 S => ?_)
          go_wp2_with fail
          go_meet
          exact ⟨_, _, _, _, S⟩
         refine stepS (fun v E1 => ∃ (va_11_5 : Option Addr) (vc_11_5 : Nat), v = .agg #[.bool true, .slice va_11_5 (digs 1).length vc_11_5] ∧ E1 = [dR (.slice va_11_5 (digs 1).length vc_11_5) (digs 1), dR (.slice qA (digs nq).length qC) (digs nq), dR (.slice ra (digs nr).length rc) (digs nr), boxR qq82 (.cells #[.bool false, .slice va_3_1 (digs 1).length vc_3_1] 167), dR (.slice va_3_1 (digs 1).length vc_3_1) (digs 1), boxR qq71 (.cells #[.bool br, .slice ra (digs nr).length rc] 167), boxR qq61 (.cells #[.bool bq, .slice qA (digs nq).length qC] 167), boxR (b + 1 + 1 + 1) (.cells #[.bool false, .slice none 0 0] 167), boxR (b + 1 + 1) (.cells #[.bool false, .slice none 0 0] 167)]) (h1 := fun Wx hSw => by (go_simp; refine symCallN ?_; have hh := rof8_at hSw (-1) (by decide); refine hh.mono ?_; rintro e W' ⟨va, vc, e1, e2⟩; refine ⟨_, _, e1, ⟨va, vc, rfl, rfl⟩, ?_⟩; exact Sep.into e2 0 rfl)) (h2 := fun v E1 hvE => ?_) (hs := ?_)
         ·
          obtain ⟨va_11_5, vc_11_5, rfl, rfl⟩ := hvE; simp only [Act.put, pa]; try dsimp only [List.set]
          refine readyS [0] ?_
          refine detS _ [dR (.slice va_11_5 (digs 1).length vc_11_5) (digs 1), dR (.slice qA (digs nq).length qC) (digs nq), dR (.slice ra (digs nr).length rc) (digs nr), boxR qq82 (.cells #[.bool false, .slice va_3_1 (digs 1).length vc_3_1] 167), dR (.slice va_3_1 (digs 1).length vc_3_1) (digs 1), boxR qq71 (.cells #[.bool br, .slice ra (digs nr).length rc] 167), boxR qq61 (.cells #[.bool bq, .slice qA (digs nq).length qC] 167), boxR (b + 1 + 1 + 1) (.cells #[.bool false, .slice none 0 0] 167), boxR (b + 1 + 1) (.cells #[.bool false, .slice none 0 0] 167)] (h1 := fun Wx hSw => by (have hz := hSw.box (b := qq61) (o := .cells #[.bool bq, .slice qA (digs nq).length qC] 167) 6 rfl; have z0 := cellAt hz 0 (v := .bool bq) rfl; have z1 := cellAt hz 1 (v := .slice qA (digs nq).length qC) rfl; go_simp; exact ⟨rfl, hSw⟩)) (h2 := ?_) (hs := nilS); simp only [Act.put, pa]; try dsimp only [List.set]
          refine readyS [2] ?_
          refine stepS (fun v E1 => ∃ (va_11_7 : Option Addr) (vc_11_7 : Nat), v = .agg #[.bool bqf, .slice va_11_7 (digs nqf).length vc_11_7] ∧ E1 = [dR (.slice va_11_5 (digs 1).length vc_11_5) (digs 1), dR (.slice va_11_7 (digs nqf).length vc_11_7) (digs nqf), dR (.slice ra (digs nr).length rc) (digs nr), boxR qq82 (.cells #[.bool false, .slice va_3_1 (digs 1).length vc_3_1] 167), dR (.slice va_3_1 (digs 1).length vc_3_1) (digs 1), boxR qq71 (.cells #[.bool br, .slice ra (digs nr).length rc] 167), boxR qq61 (.cells #[.bool bq, .slice qA (digs nq).length qC] 167), boxR (b + 1 + 1 + 1) (.cells #[.bool false, .slice none 0 0] 167), boxR (b + 1 + 1) (.cells #[.bool false, .slice none 0 0] 167)]) (h1 := fun Wx hSw => by (go_simp; refine symCallN ?_; have hh := radd_at hSw q1 (-1) _ _ (show SeesD _ _ (digs q1.natAbs) by rw [Xnq.out]; exact hSw.seesD 1 rfl) (show SeesD _ _ (digs 1) from hSw.seesD 0 rfl) (by have := HNL.out.1; omega) (by show (digs 1).length ≤ 4000000; have := digs_le (k := 1) (n := 1) (by decide); omega) (bx := bq) (by_ := true) Xbq.out (by decide) (z := qf) HZ1.out; rw [Xbqf.out, Xnqf.out] at hh; refine hh.mono ?_; rintro e W' ⟨va, vc, e1, e2⟩; refine ⟨_, _, e1, ⟨va, vc, rfl, rfl⟩, ?_⟩; exact Sep.into e2 1 rfl)) (h2 := fun v E1 hvE => ?_) (hs := nilS)
          obtain ⟨va_11_7, vc_11_7, rfl, rfl⟩ := hvE; simp only [Act.put, pa]; try dsimp only [List.set]
          refine readyS [3] ?_
          refine detS undef [dR (.slice va_11_5 (digs 1).length vc_11_5) (digs 1), dR (.slice va_11_7 (digs nqf).length vc_11_7) (digs nqf), dR (.slice ra (digs nr).length rc) (digs nr), boxR qq82 (.cells #[.bool false, .slice va_3_1 (digs 1).length vc_3_1] 167), dR (.slice va_3_1 (digs 1).length vc_3_1) (digs 1), boxR qq71 (.cells #[.bool br, .slice ra (digs nr).length rc] 167), boxR qq61 (.cells #[.bool bqf, .slice va_11_7 (digs nqf).length vc_11_7] 167), boxR (b + 1 + 1 + 1) (.cells #[.bool false, .slice none 0 0] 167), boxR (b + 1 + 1) (.cells #[.bool false, .slice none 0 0] 167)] (h1 := fun Wx hSw => by (have hz := hSw.box (b := qq61) (o := .cells #[.bool bq, .slice qA (digs nq).length qC] 167) 6 rfl; have z0 := cellAt hz 0 (v := .bool bq) rfl; have y0 := frozenAt hz 0; have z1 := cellAt hz 1 (v := .slice qA (digs nq).length qC) rfl; have y1 := frozenAt hz 1; go_simp; exact ⟨rfl, (Sep.setBox (cs := #[.bool bqf, .slice qA (digs nq).length qC]) (t := 167) (Sep.setBox (cs := #[.bool bq, .slice qA (digs nq).length qC]) (t := 167) hSw 6 rfl 0 (.bool bqf)) 6 rfl 1 (.slice va_11_7 (digs nqf).length vc_11_7))⟩)) (h2 := ?_) (hs := nilS); simp only [Act.put, pa]; try dsimp only [List.set]
          refine doneS (h := fun w11 S => ?_)
          go_wp2_with fail
          go_meet
          exact ⟨_, _, _, _, S⟩
         exact nilS
        case rest =>
         obtain ⟨m9a, m9c, q9a, q9c, S⟩ := hcut
         replace S := Lib.hid S
         replace S := Lib.hid S.out.tail
         go_upto_region 20 with fail
         refine regionL (E := [dR (.slice q9a (digs nqf).length q9c) (digs nqf), dR (.slice ra (digs nr).length rc) (digs nr), boxR qq82 (.cells #[.bool false, .slice va_3_1 (digs 1).length vc_3_1] 167), dR (.slice va_3_1 (digs 1).length vc_3_1) (digs 1), boxR qq71 (.cells #[.bool br, .slice ra (digs nr).length rc] 167), boxR qq61 (.cells #[.bool bqf, .slice q9a (digs nqf).length q9c] 167), boxR (b + 1 + 1 + 1) (.cells #[.bool false, .slice none 0 0] 167), boxR (b + 1 + 1) (.cells #[.bool false, .slice none 0 0] 167)]) (base := bA) S.out ?_
         clear S
         refine qd _ [dR (.slice q9a (digs nqf).length q9c) (digs nqf), dR (.slice ra (digs nr).length rc) (digs nr), boxR qq82 (.cells #[.bool false, .slice va_3_1 (digs 1).length vc_3_1] 167), dR (.slice va_3_1 (digs 1).length vc_3_1) (digs 1), boxR qq71 (.cells #[.bool br, .slice ra (digs nr).length rc] 167), boxR qq61 (.cells #[.bool bqf, .slice q9a (digs nqf).length q9c] 167), boxR (b + 1 + 1 + 1) (.cells #[.bool false, .slice none 0 0] 167), boxR (b + 1 + 1) (.cells #[.bool false, .slice none 0 0] 167)] (h1 := fun Wx hSw => by (have hz := hSw.box (b := qq71) (o := .cells #[.bool br, .slice ra (digs nr).length rc] 167) 4 rfl; have z0 := cellAt hz 0 (v := .bool br) rfl; have z1 := cellAt hz 1 (v := .slice ra (digs nr).length rc) rfl; go_simp; exact ⟨rfl, hSw⟩)) (h2 := ?_)
         refine qc C1 ?_
         refine stepL (fun v E1 => ∃ (va_12_2 : Option Addr) (vc_12_2 : Nat), v = .agg #[.bool brf, .slice va_12_2 (digs nrf).length vc_12_2] ∧ E1 = [dR (.slice q9a (digs nqf).length q9c) (digs nqf), dR (.slice va_12_2 (digs nrf).length vc_12_2) (digs nrf), boxR qq82 (.cells #[.bool false, .slice va_3_1 (digs 1).length vc_3_1] 167), dR (.slice va_3_1 (digs 1).length vc_3_1) (digs 1), boxR qq71 (.cells #[.bool br, .slice ra (digs nr).length rc] 167), boxR qq61 (.cells #[.bool bqf, .slice q9a (digs nqf).length q9c] 167), boxR (b + 1 + 1 + 1) (.cells #[.bool false, .slice none 0 0] 167), boxR (b + 1 + 1) (.cells #[.bool false, .slice none 0 0] 167)]) (h1 := fun Wx hSw => by (go_simp; refine symCallN ?_; have hh := radd_at hSw r1 y _ sb (show SeesD _ _ (digs r1.natAbs) by rw [Xnr.out]; exact hSw.seesD 1 rfl) (show SeesD _ _ (digs y.natAbs) by rw [XhB.out]; exact HY.out.below hSw.below) (by have := HNL.out.2.1; omega) (by have := HNL.out.2.2; omega) (bx := br) (by_ := bb) Xbr.out Xhbb.out (z := rf) HZ2.out; rw [Xbrf.out, Xnrf.out] at hh; refine hh.mono ?_; rintro e W' ⟨va, vc, e1, e2⟩; refine ⟨_, _, e1, ⟨va, vc, rfl, rfl⟩, ?_⟩; exact Sep.into e2 1 rfl)) (h2 := fun v E1 hvE => ?_)
         obtain ⟨va_12_2, vc_12_2, rfl, rfl⟩ := hvE; simp only [Act.put, pa]; try dsimp only [List.set]
         refine qd undef [dR (.slice q9a (digs nqf).length q9c) (digs nqf), dR (.slice va_12_2 (digs nrf).length vc_12_2) (digs nrf), boxR qq82 (.cells #[.bool false, .slice va_3_1 (digs 1).length vc_3_1] 167), dR (.slice va_3_1 (digs 1).length vc_3_1) (digs 1), boxR qq71 (.cells #[.bool brf, .slice va_12_2 (digs nrf).length vc_12_2] 167), boxR qq61 (.cells #[.bool bqf, .slice q9a (digs nqf).length q9c] 167), boxR (b + 1 + 1 + 1) (.cells #[.bool false, .slice none 0 0] 167), boxR (b + 1 + 1) (.cells #[.bool false, .slice none 0 0] 167)] (h1 := fun Wx hSw => by (have hz := hSw.box (b := qq71) (o := .cells #[.bool br, .slice ra (digs nr).length rc] 167) 4 rfl; have z0 := cellAt hz 0 (v := .bool br) rfl; have y0 := frozenAt hz 0; have z1 := cellAt hz 1 (v := .slice ra (digs nr).length rc) rfl; have y1 := frozenAt hz 1; go_simp; exact ⟨rfl, (Sep.setBox (cs := #[.bool brf, .slice ra (digs nr).length rc]) (t := 167) (Sep.setBox (cs := #[.bool br, .slice ra (digs nr).length rc]) (t := 167) hSw 4 rfl 0 (.bool brf)) 4 rfl 1 (.slice va_12_2 (digs nrf).length vc_12_2))⟩)) (h2 := ?_)
         refine doneL (h := fun w12 S => ?_)
         replace S := Lib.hid S
         go_wp2_with fail; go_meet; exact ⟨_, _, _, _, S.out⟩
      case rest =>
       obtain ⟨qA, qC, ra, rc, S⟩ := hcut
       replace S := Lib.hid S
       obtain ⟨bK, hnb⟩ : ∃ l, l = [boxR qq61 (.cells #[.bool bqf, .slice qA (digs nqf).length qC] 167), boxR qq71 (.cells #[.bool brf, .slice ra (digs nrf).length rc] 167)] ++ bA := ⟨_, rfl⟩
       have HBbK := Lib.hid hnb
       replace S : Sep w ([dR (.slice qA (digs nqf).length qC) (digs nqf), dR (.slice ra (digs nrf).length rc) (digs nrf), boxR qq82 (.cells #[.bool false, .slice va_3_1 (digs 1).length vc_3_1] 167), dR (.slice va_3_1 (digs 1).length vc_3_1) (digs 1), boxR (b + 1 + 1 + 1) (.cells #[.bool false, .slice none 0 0] 167), boxR (b + 1 + 1) (.cells #[.bool false, .slice none 0 0] 167)] ++ bK) wc := by
        rw [hnb]
        refine S.out.perm ?_
        exact (show ([dR (.slice qA (digs nqf).length qC) (digs nqf), dR (.slice ra (digs nrf).length rc) (digs nrf), boxR qq82 (.cells #[.bool false, .slice va_3_1 (digs 1).length vc_3_1] 167), dR (.slice va_3_1 (digs 1).length vc_3_1) (digs 1), boxR qq71 (.cells #[.bool brf, .slice ra (digs nrf).length rc] 167), boxR qq61 (.cells #[.bool bqf, .slice qA (digs nqf).length qC] 167), boxR (b + 1 + 1 + 1) (.cells #[.bool false, .slice none 0 0] 167), boxR (b + 1 + 1) (.cells #[.bool false, .slice none 0 0] 167)] ++ bA).Perm ([dR (.slice qA (digs nqf).length qC) (digs nqf), dR (.slice ra (digs nrf).length rc) (digs nrf), boxR qq82 (.cells #[.bool false, .slice va_3_1 (digs 1).length vc_3_1] 167), dR (.slice va_3_1 (digs 1).length vc_3_1) (digs 1), boxR (b + 1 + 1 + 1) (.cells #[.bool false, .slice none 0 0] 167), boxR (b + 1 + 1) (.cells #[.bool false, .slice none 0 0] 167)] ++ ([boxR qq61 (.cells #[.bool bqf, .slice qA (digs nqf).length qC] 167), boxR qq71 (.cells #[.bool brf, .slice ra (digs nrf).length rc] 167)] ++ bA)) from by rw [← List.append_assoc]; exact List.Perm.append_right bA (by exact perm_of [0, 1, 2, 3, 6, 7, 5, 4] (by show (List.range' 0 8).Perm [0, 1, 2, 3, 6, 7, 5, 4]; decide) (by rfl)))
       clear hnb
       replace S := Lib.hid S
       have C1_bK := liftC HBbK C1
       have C0_bK := liftC HBbK C0
       have Cq6_bK : Hid (∀ W (Q : List Res), Sep w (Q ++ bK) W → W.cell? ⟨qq61, 0, none⟩ = some (.bool bqf) ∧ W.cell? ⟨qq61, 1, none⟩ = some (.slice qA (digs nqf).length qC)) := Lib.hid fun W Q T => by
        rw [HBbK.out] at T
        have i0 := T.box (b := qq61) (o := .cells #[.bool bqf, .slice qA (digs nqf).length qC] 167) (Q.length + 0) (atR rfl)
        exact ⟨cellAt i0 0 rfl, cellAt i0 1 rfl⟩
       have Cq7_bK : Hid (∀ W (Q : List Res), Sep w (Q ++ bK) W → W.cell? ⟨qq71, 0, none⟩ = some (.bool brf) ∧ W.cell? ⟨qq71, 1, none⟩ = some (.slice ra (digs nrf).length rc)) := Lib.hid fun W Q T => by
        rw [HBbK.out] at T
        have i0 := T.box (b := qq71) (o := .cells #[.bool brf, .slice ra (digs nrf).length rc] 167) (Q.length + 1) (atR rfl)
        exact ⟨cellAt i0 0 rfl, cellAt i0 1 rfl⟩
       go_upto_region 21 with fail
       go_cut [] (fun  wx => Sep w ([dR (.slice qA (digs nqf).length qC) (digs nqf), dR (.slice ra (digs nrf).length rc) (digs nrf), boxR qq82 (.cells #[.bool false, .slice va_3_1 (digs 1).length vc_3_1] 167), dR (.slice va_3_1 (digs 1).length vc_3_1) (digs 1), boxR (b + 1 + 1 + 1) (.cells #[.bool brf, .slice ra (digs nrf).length rc] 167), boxR (b + 1 + 1) (.cells #[.bool bqf, .slice qA (digs nqf).length qC] 167)] ++ bK) wx)
       case first =>
        refine regionP 2 2 (E := [dR (.slice qA (digs nqf).length qC) (digs nqf), dR (.slice ra (digs nrf).length rc) (digs nrf), boxR qq82 (.cells #[.bool false, .slice va_3_1 (digs 1).length vc_3_1] 167), dR (.slice va_3_1 (digs 1).length vc_3_1) (digs 1), boxR (b + 1 + 1 + 1) (.cells #[.bool false, .slice none 0 0] 167), boxR (b + 1 + 1) (.cells #[.bool false, .slice none 0 0] 167)]) (base := bK) S.out ?_
        clear S
        refine qpc Cq6_bK ?_
        refine qpc Cq7_bK ?_
        refine endP ?_
        refine readyS [2] ?_
        refine detS undef [dR (.slice qA (digs nqf).length qC) (digs nqf), dR (.slice ra (digs nrf).length rc) (digs nrf), boxR qq82 (.cells #[.bool false, .slice va_3_1 (digs 1).length vc_3_1] 167), dR (.slice va_3_1 (digs 1).length vc_3_1) (digs 1), boxR (b + 1 + 1 + 1) (.cells #[.bool false, .slice none 0 0] 167), boxR (b + 1 + 1) (.cells #[.bool bqf, .slice qA (digs nqf).length qC] 167)] (h1 := fun Wx hSw => by (have hz := hSw.box (b := (b + 1 + 1)) (o := .cells #[.bool false, .slice none 0 0] 167) 5 rfl; have z0 := cellAt hz 0 (v := .bool false) rfl; have y0 := frozenAt hz 0; have z1 := cellAt hz 1 (v := .slice none 0 0) rfl; have y1 := frozenAt hz 1; go_simp; exact ⟨rfl, (Sep.setBox (cs := #[.bool bqf, .slice none 0 0]) (t := 167) (Sep.setBox (cs := #[.bool false, .slice none 0 0]) (t := 167) hSw 5 rfl 0 (.bool bqf)) 5 rfl 1 (.slice qA (digs nqf).length qC))⟩)) (h2 := ?_) (hs := nilS); simp only [Act.put, pa]; try dsimp only [List.set]
        refine readyS [3] ?_
        refine detS undef [dR (.slice qA (digs nqf).length qC) (digs nqf), dR (.slice ra (digs nrf).length rc) (digs nrf), boxR qq82 (.cells #[.bool false, .slice va_3_1 (digs 1).length vc_3_1] 167), dR (.slice va_3_1 (digs 1).length vc_3_1) (digs 1), boxR (b + 1 + 1 + 1) (.cells #[.bool brf, .slice ra (digs nrf).length rc] 167), boxR (b + 1 + 1) (.cells #[.bool bqf, .slice qA (digs nqf).length qC] 167)] (h1 := fun Wx hSw => by (have hz := hSw.box (b := (b + 1 + 1 + 1)) (o := .cells #[.bool false, .slice none 0 0] 167) 4 rfl; have z0 := cellAt hz 0 (v := .bool false) rfl; have y0 := frozenAt hz 0; have z1 := cellAt hz 1 (v := .slice none 0 0) rfl; have y1 := frozenAt hz 1; go_simp; exact ⟨rfl, (Sep.setBox (cs := #[.bool brf, .slice none 0 0]) (t := 167) (Sep.setBox (cs := #[.bool false, .slice none 0 0]) (t := 167) hSw 4 rfl 0 (.bool brf)) 4 rfl 1 (.slice ra (digs nrf).length rc))⟩)) (h2 := ?_) (hs := nilS); simp only [Act.put, pa]; try dsimp only [List.set]
        refine doneS (h := fun w13 S => ?_)
        go_wp2_with fail
        go_meet
        exact S
       case rest =>
        have S := hcut
        replace S := Lib.hid S
        have r0 := cellAt (S.out.box (b := b + 1 + 1) 5 rfl) 0 (v := .bool bqf) rfl
        have r1 := cellAt (S.out.box (b := b + 1 + 1) 5 rfl) 1 (v := .slice qA (digs nqf).length qC) rfl
        have r2 := cellAt (S.out.box (b := b + 1 + 1 + 1) 4 rfl) 0 (v := .bool brf) rfl
        have r3 := cellAt (S.out.box (b := b + 1 + 1 + 1) 4 rfl) 1 (v := .slice ra (digs nrf).length rc) rfl
        repeat (first | go_values | go_skip | go_guarded | go_step)
        refine bodyPost_ret (v := .tuple #[.agg #[.bool bqf, .slice qA (digs nqf).length qC], .agg #[.bool brf, .slice ra (digs nrf).length rc]]) ?_ ?_ ?_
        ·
         simp [results, Tryz.results140, go_sem, r0, r1, r2, r3]
        ·
         rfl
        refine ⟨qA, qC, ra, rc, ?_, ?_⟩
        ·
         rw [Xqf.out, Xrf.out, Xbqf.out, Xnqf.out, Xbrf.out, Xnrf.out]
        rw [Xqf.out, Xrf.out, Xnqf.out, Xnrf.out]
        replace S := S.out
        rw [HBbK.out, HBS.out] at S
        exact S.sub (.cons_cons _ (.cons_cons _ (.cons _ (.cons _ (.cons _ (.cons _ (.cons _ (.cons _ (.cons _ (.cons _ (List.Sublist.refl _)))))))))))
  ·
   obtain ⟨i, rfl⟩ : ∃ i, k = i + 1 := ⟨k - 1, by omega⟩
   have e0 : (((i + 1 : Nat) : Int) - 1) = (i : Int) := by omega
   simp only [e0]
   have hge : (0 : Int) ≤ i := by omega
   have hQA : Q ≤ A := by rw [HK.out.2.1]; exact Nat.le_trans (Nat.div_le_self _ _) (Nat.div_le_self _ _)
   have hRB : R < B := by rw [HK.out.2.2]; exact Nat.mod_lt _ XhB0.out
   have HQL : Hid ((digs Q).length ≤ 50) := Lib.hid (digs_le (Nat.lt_of_le_of_lt hQA Xhal.out))
   have HRL : Hid ((digs R).length ≤ 50) := Lib.hid (digs_le (Nat.lt_trans hRB Xhbl.out))
   obtain ⟨Q2, hQ2⟩ : ∃ q, Q + Q = q := ⟨_, rfl⟩
   obtain ⟨R2, hR2⟩ : ∃ q, R + R = q := ⟨_, rfl⟩
   obtain ⟨dd, hdd⟩ : ∃ d, digD (digs A) (i / 16) = d := ⟨_, rfl⟩
   have XhQ2 := Lib.hid hQ2
   have XhR2 := Lib.hid hR2
   have Xhdd := Lib.hid hdd
   have XhQA := Lib.hid hQA
   have XhRB := Lib.hid hRB
   clear h0 hQ2 hR2 hdd hQA hRB e0
   replace S := Lib.hid S
   go_upto_region 7 with fail
   refine regionL (E := [dR (.slice qA (digs Q).length qC) (digs Q), dR (.slice ra (digs R).length rc) (digs R), boxR qq82 (.cells #[.bool false, .slice va_3_1 (digs 1).length vc_3_1] 167), dR (.slice va_3_1 (digs 1).length vc_3_1) (digs 1), boxR qq71 (.cells #[.bool false, .slice ra (digs R).length rc] 167), boxR qq61 (.cells #[.bool false, .slice qA (digs Q).length qC] 167), boxR (b + 1 + 1 + 1) (.cells #[.bool false, .slice none 0 0] 167), boxR (b + 1 + 1) (.cells #[.bool false, .slice none 0 0] 167)]) (base := bA) S.out ?_
   clear S
   refine qd _ [dR (.slice qA (digs Q).length qC) (digs Q), dR (.slice ra (digs R).length rc) (digs R), boxR qq82 (.cells #[.bool false, .slice va_3_1 (digs 1).length vc_3_1] 167), dR (.slice va_3_1 (digs 1).length vc_3_1) (digs 1), boxR qq71 (.cells #[.bool false, .slice ra (digs R).length rc] 167), boxR qq61 (.cells #[.bool false, .slice qA (digs Q).length qC] 167), boxR (b + 1 + 1 + 1) (.cells #[.bool false, .slice none 0 0] 167), boxR (b + 1 + 1) (.cells #[.bool false, .slice none 0 0] 167)] (h1 := fun Wx hSw => by (have hz := hSw.box (b := qq61) (o := .cells #[.bool false, .slice qA (digs Q).length qC] 167) 5 rfl; have z0 := cellAt hz 0 (v := .bool false) rfl; have z1 := cellAt hz 1 (v := .slice qA (digs Q).length qC) rfl; go_simp; exact ⟨rfl, hSw⟩)) (h2 := ?_)
   refine qd _ [dR (.slice qA (digs Q).length qC) (digs Q), dR (.slice ra (digs R).length rc) (digs R), boxR qq82 (.cells #[.bool false, .slice va_3_1 (digs 1).length vc_3_1] 167), dR (.slice va_3_1 (digs 1).length vc_3_1) (digs 1), boxR qq71 (.cells #[.bool false, .slice ra (digs R).length rc] 167), boxR qq61 (.cells #[.bool false, .slice qA (digs Q).length qC] 167), boxR (b + 1 + 1 + 1) (.cells #[.bool false, .slice none 0 0] 167), boxR (b + 1 + 1) (.cells #[.bool false, .slice none 0 0] 167)] (h1 := fun Wx hSw => by (have hz := hSw.box (b := qq61) (o := .cells #[.bool false, .slice qA (digs Q).length qC] 167) 5 rfl; have z0 := cellAt hz 0 (v := .bool false) rfl; have z1 := cellAt hz 1 (v := .slice qA (digs Q).length qC) rfl; go_simp; exact ⟨rfl, hSw⟩)) (h2 := ?_)
   refine stepL (fun v E1 => ∃ (va_14_3 : Option Addr) (vc_14_3 : Nat), v = .agg #[.bool false, .slice va_14_3 (digs Q2).length vc_14_3] ∧ E1 = [dR (.slice va_14_3 (digs Q2).length vc_14_3) (digs Q2), dR (.slice ra (digs R).length rc) (digs R), boxR qq82 (.cells #[.bool false, .slice va_3_1 (digs 1).length vc_3_1] 167), dR (.slice va_3_1 (digs 1).length vc_3_1) (digs 1), boxR qq71 (.cells #[.bool false, .slice ra (digs R).length rc] 167), boxR qq61 (.cells #[.bool false, .slice qA (digs Q).length qC] 167), boxR (b + 1 + 1 + 1) (.cells #[.bool false, .slice none 0 0] 167), boxR (b + 1 + 1) (.cells #[.bool false, .slice none 0 0] 167)]) (h1 := fun Wx hSw => by (go_simp; refine symCallN ?_; have hh := raddN_at hSw Q Q Q2 _ _ (hSw.seesD 0 rfl) (hSw.seesD 0 rfl) (by have := HQL.out; omega) (by have := HQL.out; omega) XhQ2.out; refine hh.mono ?_; rintro e W' ⟨va, vc, e1, e2⟩; refine ⟨_, _, e1, ⟨va, vc, rfl, rfl⟩, ?_⟩; exact Sep.into e2 0 rfl)) (h2 := fun v E1 hvE => ?_)
   obtain ⟨va_14_3, vc_14_3, rfl, rfl⟩ := hvE; simp only [Act.put, pa]; try dsimp only [List.set]
   refine qd undef [dR (.slice va_14_3 (digs Q2).length vc_14_3) (digs Q2), dR (.slice ra (digs R).length rc) (digs R), boxR qq82 (.cells #[.bool false, .slice va_3_1 (digs 1).length vc_3_1] 167), dR (.slice va_3_1 (digs 1).length vc_3_1) (digs 1), boxR qq71 (.cells #[.bool false, .slice ra (digs R).length rc] 167), boxR qq61 (.cells #[.bool false, .slice va_14_3 (digs Q2).length vc_14_3] 167), boxR (b + 1 + 1 + 1) (.cells #[.bool false, .slice none 0 0] 167), boxR (b + 1 + 1) (.cells #[.bool false, .slice none 0 0] 167)] (h1 := fun Wx hSw => by (have hz := hSw.box (b := qq61) (o := .cells #[.bool false, .slice qA (digs Q).length qC] 167) 5 rfl; have z0 := cellAt hz 0 (v := .bool false) rfl; have y0 := frozenAt hz 0; have z1 := cellAt hz 1 (v := .slice qA (digs Q).length qC) rfl; have y1 := frozenAt hz 1; go_simp; exact ⟨rfl, (Sep.setBox (cs := #[.bool false, .slice qA (digs Q).length qC]) (t := 167) (Sep.setBox (cs := #[.bool false, .slice qA (digs Q).length qC]) (t := 167) hSw 5 rfl 0 (.bool false)) 5 rfl 1 (.slice va_14_3 (digs Q2).length vc_14_3))⟩)) (h2 := ?_)
   refine doneL (h := fun w14 S => ?_)
   replace S := Lib.hid S
   go_upto_region 8 with fail
   refine regionL (E := [dR (.slice va_14_3 (digs Q2).length vc_14_3) (digs Q2), dR (.slice ra (digs R).length rc) (digs R), boxR qq82 (.cells #[.bool false, .slice va_3_1 (digs 1).length vc_3_1] 167), dR (.slice va_3_1 (digs 1).length vc_3_1) (digs 1), boxR qq71 (.cells #[.bool false, .slice ra (digs R).length rc] 167), boxR qq61 (.cells #[.bool false, .slice va_14_3 (digs Q2).length vc_14_3] 167), boxR (b + 1 + 1 + 1) (.cells #[.bool false, .slice none 0 0] 167), boxR (b + 1 + 1) (.cells #[.bool false, .slice none 0 0] 167)]) (base := bA) S.out ?_
   clear S
   refine qd _ [dR (.slice va_14_3 (digs Q2).length vc_14_3) (digs Q2), dR (.slice ra (digs R).length rc) (digs R), boxR qq82 (.cells #[.bool false, .slice va_3_1 (digs 1).length vc_3_1] 167), dR (.slice va_3_1 (digs 1).length vc_3_1) (digs 1), boxR qq71 (.cells #[.bool false, .slice ra (digs R).length rc] 167), boxR qq61 (.cells #[.bool false, .slice va_14_3 (digs Q2).length vc_14_3] 167), boxR (b + 1 + 1 + 1) (.cells #[.bool false, .slice none 0 0] 167), boxR (b + 1 + 1) (.cells #[.bool false, .slice none 0 0] 167)] (h1 := fun Wx hSw => by (have hz := hSw.box (b := qq71) (o := .cells #[.bool false, .slice ra (digs R).length rc] 167) 4 rfl; have z0 := cellAt hz 0 (v := .bool false) rfl; have z1 := cellAt hz 1 (v := .slice ra (digs R).length rc) rfl; go_simp; exact ⟨rfl, hSw⟩)) (h2 := ?_)
   refine qd _ [dR (.slice va_14_3 (digs Q2).length vc_14_3) (digs Q2), dR (.slice ra (digs R).length rc) (digs R), boxR qq82 (.cells #[.bool false, .slice va_3_1 (digs 1).length vc_3_1] 167), dR (.slice va_3_1 (digs 1).length vc_3_1) (digs 1), boxR qq71 (.cells #[.bool false, .slice ra (digs R).length rc] 167), boxR qq61 (.cells #[.bool false, .slice va_14_3 (digs Q2).length vc_14_3] 167), boxR (b + 1 + 1 + 1) (.cells #[.bool false, .slice none 0 0] 167), boxR (b + 1 + 1) (.cells #[.bool false, .slice none 0 0] 167)] (h1 := fun Wx hSw => by (have hz := hSw.box (b := qq71) (o := .cells #[.bool false, .slice ra (digs R).length rc] 167) 4 rfl; have z0 := cellAt hz 0 (v := .bool false) rfl; have z1 := cellAt hz 1 (v := .slice ra (digs R).length rc) rfl; go_simp; exact ⟨rfl, hSw⟩)) (h2 := ?_)
   refine stepL (fun v E1 => ∃ (va_15_3 : Option Addr) (vc_15_3 : Nat), v = .agg #[.bool false, .slice va_15_3 (digs R2).length vc_15_3] ∧ E1 = [dR (.slice va_14_3 (digs Q2).length vc_14_3) (digs Q2), dR (.slice va_15_3 (digs R2).length vc_15_3) (digs R2), boxR qq82 (.cells #[.bool false, .slice va_3_1 (digs 1).length vc_3_1] 167), dR (.slice va_3_1 (digs 1).length vc_3_1) (digs 1), boxR qq71 (.cells #[.bool false, .slice ra (digs R).length rc] 167), boxR qq61 (.cells #[.bool false, .slice va_14_3 (digs Q2).length vc_14_3] 167), boxR (b + 1 + 1 + 1) (.cells #[.bool false, .slice none 0 0] 167), boxR (b + 1 + 1) (.cells #[.bool false, .slice none 0 0] 167)]) (h1 := fun Wx hSw => by (go_simp; refine symCallN ?_; have hh := raddN_at hSw R R R2 _ _ (hSw.seesD 1 rfl) (hSw.seesD 1 rfl) (by have := HRL.out; omega) (by have := HRL.out; omega) XhR2.out; refine hh.mono ?_; rintro e W' ⟨va, vc, e1, e2⟩; refine ⟨_, _, e1, ⟨va, vc, rfl, rfl⟩, ?_⟩; exact Sep.into e2 1 rfl)) (h2 := fun v E1 hvE => ?_)
   obtain ⟨va_15_3, vc_15_3, rfl, rfl⟩ := hvE; simp only [Act.put, pa]; try dsimp only [List.set]
   refine qd undef [dR (.slice va_14_3 (digs Q2).length vc_14_3) (digs Q2), dR (.slice va_15_3 (digs R2).length vc_15_3) (digs R2), boxR qq82 (.cells #[.bool false, .slice va_3_1 (digs 1).length vc_3_1] 167), dR (.slice va_3_1 (digs 1).length vc_3_1) (digs 1), boxR qq71 (.cells #[.bool false, .slice va_15_3 (digs R2).length vc_15_3] 167), boxR qq61 (.cells #[.bool false, .slice va_14_3 (digs Q2).length vc_14_3] 167), boxR (b + 1 + 1 + 1) (.cells #[.bool false, .slice none 0 0] 167), boxR (b + 1 + 1) (.cells #[.bool false, .slice none 0 0] 167)] (h1 := fun Wx hSw => by (have hz := hSw.box (b := qq71) (o := .cells #[.bool false, .slice ra (digs R).length rc] 167) 4 rfl; have z0 := cellAt hz 0 (v := .bool false) rfl; have y0 := frozenAt hz 0; have z1 := cellAt hz 1 (v := .slice ra (digs R).length rc) rfl; have y1 := frozenAt hz 1; go_simp; exact ⟨rfl, (Sep.setBox (cs := #[.bool false, .slice ra (digs R).length rc]) (t := 167) (Sep.setBox (cs := #[.bool false, .slice ra (digs R).length rc]) (t := 167) hSw 4 rfl 0 (.bool false)) 4 rfl 1 (.slice va_15_3 (digs R2).length vc_15_3))⟩)) (h2 := ?_)
   refine doneL (h := fun w15 S => ?_)
   replace S := Lib.hid S
   obtain ⟨i6, hi6⟩ : ∃ j, j = i / 16 := ⟨_, rfl⟩
   obtain ⟨t6, ht6⟩ : ∃ j, j = i % 16 := ⟨_, rfl⟩
   have hd1 : IntKind.i64.wrap ((i : Int) / 16) = (i6 : Int) := by rw [IntWalk.i64_in _ (by have := HK.out.1; omega)]; omega
   have hd2 : (i : Int).tmod 16 = (t6 : Int) := by rw [Int.tmod_eq_emod_of_nonneg (by omega)]; omega
   have ht7 : t6 < 16 := by omega
   have hd3 : IntKind.u64.wrap (t6 : Int) = (t6 : Int) := by simp [IntKind.wrap, IntKind.bits, IntKind.signed]; omega
   have hd4 : IntKind.i64.wrap (t6 : Int) = (t6 : Int) := IntWalk.i64_in _ (by omega)
   have Hi6 := Lib.hid hi6
   have Ht6 := Lib.hid ht6
   clear hi6 ht6
   have KD : QuietC w bA 180 #[.slice aa L ac, .int .i64 i6] (.int .i64 (dd : Int)) := Lib.hid fun W Q T => by
    have hh := rdigit_ok W _ _ (HX.out.below T.below) (i / 16)
    rw [Xhdd.out, ← Hi6.out] at hh
    exact hh.mono fun e W' ⟨e1, e2⟩ => ⟨e1, by rw [e2]; exact T⟩
   obtain ⟨u, hu⟩ : ∃ u, u = A / 2 ^ i % 2 := ⟨_, rfl⟩
   have hu2 : u < 2 := by rw [hu]; exact Nat.mod_lt _ (by decide)
   have hbt : ((dd : Int) / 2 ^ t6).tmod 2 = (u : Int) := by
    have e := bit_of (digs_ok A) i; rw [digs_val, Xhdd.out, ← Ht6.out, ← hu] at e
    have e2 : ((dd : Int) / 2 ^ t6) = ((dd / 2 ^ t6 : Nat) : Int) := by rw [Int.natCast_ediv, Int.natCast_pow]; rfl
    rw [e2, Int.tmod_eq_emod_of_nonneg (Int.natCast_nonneg _)]
    show ((dd / 2 ^ t6 : Nat) : Int) % ((2 : Nat) : Int) = _
    rw [← Int.natCast_emod, e]
   obtain ⟨bit, hbit⟩ : ∃ q, ((u : Int) == 1) = q := ⟨_, rfl⟩
   have HBT := Lib.hid (And.intro hbt hbit)
   have HU := Lib.hid (And.intro hu hu2)
   clear hbt hu hu2
   have HBIT := Lib.hid hbit
   clear hbit
   go_upto_region 9 with fail
   refine regionL (E := [dR (.slice va_14_3 (digs Q2).length vc_14_3) (digs Q2), dR (.slice va_15_3 (digs R2).length vc_15_3) (digs R2), boxR qq82 (.cells #[.bool false, .slice va_3_1 (digs 1).length vc_3_1] 167), dR (.slice va_3_1 (digs 1).length vc_3_1) (digs 1), boxR qq71 (.cells #[.bool false, .slice va_15_3 (digs R2).length vc_15_3] 167), boxR qq61 (.cells #[.bool false, .slice va_14_3 (digs Q2).length vc_14_3] 167), boxR (b + 1 + 1 + 1) (.cells #[.bool false, .slice none 0 0] 167), boxR (b + 1 + 1) (.cells #[.bool false, .slice none 0 0] 167)]) (base := bA) S.out ?_
   clear S
   refine qa ?_
   refine qc C0 ?_
   iterate 2 refine qa ?_
   refine qk KD ?_
   iterate 5 refine qa ?_
   refine qa (v := .bool bit) (hy := fun E Wx hSw => by (go_simp; rw [HBT.out.1, HBT.out.2]; exact ⟨rfl, hSw⟩)) (h := ?_)
   refine doneL (h := fun w16 S => ?_)
   replace S := Lib.hid S
   clear KD hd1 hd2 hd3 hd4 ht7
   obtain ⟨R3, hR3⟩ : ∃ r, R2 + u = r := ⟨_, rfl⟩
   have XhR3 := Lib.hid hR3
   clear hR3
   go_upto_if 38 with fail
   go_cut [] (fun wx => ∃ (r3a : Option Addr) (r3c : Nat), Sep w ([dR (.slice va_14_3 (digs Q2).length vc_14_3) (digs Q2), dR (.slice r3a (digs R3).length r3c) (digs R3), boxR qq82 (.cells #[.bool false, .slice va_3_1 (digs 1).length vc_3_1] 167), dR (.slice va_3_1 (digs 1).length vc_3_1) (digs 1), boxR qq71 (.cells #[.bool false, .slice r3a (digs R3).length r3c] 167), boxR qq61 (.cells #[.bool false, .slice va_14_3 (digs Q2).length vc_14_3] 167), boxR (b + 1 + 1 + 1) (.cells #[.bool false, .slice none 0 0] 167), boxR (b + 1 + 1) (.cells #[.bool false, .slice none 0 0] 167)] ++ bA) wx)
   case first =>
    cases bit with
    | false =>
     obtain rfl : R2 = R3 := by have := HU.out.2; have := XhR3.out; have h := HBIT.out; have : u ≠ 1 := (fun e => by subst e; cases h); omega
     go_wp2_with fail; go_meet; exact ⟨_, _, S.out⟩
    | true =>
     obtain rfl : u = 1 := by have h := HBIT.out; have := HU.out.2; rcases Nat.lt_or_ge u 1 with h1 | h1; exact absurd (show u = 0 by omega) (fun e => by subst e; cases h); omega
     have HR2L : Hid ((digs R2).length ≤ 51) := Lib.hid (digs_le (by have := XhR2.out; have := XhRB.out; have h := Xhbl.out; rw [show 65536 ^ 51 = 65536 ^ 50 * 65536 from Nat.pow_succ ..]; omega))
     go_upto_region 10 with fail
     refine regionL (E := [dR (.slice va_14_3 (digs Q2).length vc_14_3) (digs Q2), dR (.slice va_15_3 (digs R2).length vc_15_3) (digs R2), boxR qq82 (.cells #[.bool false, .slice va_3_1 (digs 1).length vc_3_1] 167), dR (.slice va_3_1 (digs 1).length vc_3_1) (digs 1), boxR qq71 (.cells #[.bool false, .slice va_15_3 (digs R2).length vc_15_3] 167), boxR qq61 (.cells #[.bool false, .slice va_14_3 (digs Q2).length vc_14_3] 167), boxR (b + 1 + 1 + 1) (.cells #[.bool false, .slice none 0 0] 167), boxR (b + 1 + 1) (.cells #[.bool false, .slice none 0 0] 167)]) (base := bA) S.out ?_
     clear S
     refine qd _ [dR (.slice va_14_3 (digs Q2).length vc_14_3) (digs Q2), dR (.slice va_15_3 (digs R2).length vc_15_3) (digs R2), boxR qq82 (.cells #[.bool false, .slice va_3_1 (digs 1).length vc_3_1] 167), dR (.slice va_3_1 (digs 1).length vc_3_1) (digs 1), boxR qq71 (.cells #[.bool false, .slice va_15_3 (digs R2).length vc_15_3] 167), boxR qq61 (.cells #[.bool false, .slice va_14_3 (digs Q2).length vc_14_3] 167), boxR (b + 1 + 1 + 1) (.cells #[.bool false, .slice none 0 0] 167), boxR (b + 1 + 1) (.cells #[.bool false, .slice none 0 0] 167)] (h1 := fun Wx hSw => by (have hz := hSw.box (b := qq71) (o := .cells #[.bool false, .slice va_15_3 (digs R2).length vc_15_3] 167) 4 rfl; have z0 := cellAt hz 0 (v := .bool false) rfl; have z1 := cellAt hz 1 (v := .slice va_15_3 (digs R2).length vc_15_3) rfl; go_simp; exact ⟨rfl, hSw⟩)) (h2 := ?_)
     refine qd _ [dR (.slice va_14_3 (digs Q2).length vc_14_3) (digs Q2), dR (.slice va_15_3 (digs R2).length vc_15_3) (digs R2), boxR qq82 (.cells #[.bool false, .slice va_3_1 (digs 1).length vc_3_1] 167), dR (.slice va_3_1 (digs 1).length vc_3_1) (digs 1), boxR qq71 (.cells #[.bool false, .slice va_15_3 (digs R2).length vc_15_3] 167), boxR qq61 (.cells #[.bool false, .slice va_14_3 (digs Q2).length vc_14_3] 167), boxR (b + 1 + 1 + 1) (.cells #[.bool false, .slice none 0 0] 167), boxR (b + 1 + 1) (.cells #[.bool false, .slice none 0 0] 167)] (h1 := fun Wx hSw => by (have hz := hSw.box (b := qq82) (o := .cells #[.bool false, .slice va_3_1 (digs 1).length vc_3_1] 167) 2 rfl; have z0 := cellAt hz 0 (v := .bool false) rfl; have z1 := cellAt hz 1 (v := .slice va_3_1 (digs 1).length vc_3_1) rfl; go_simp; exact ⟨rfl, hSw⟩)) (h2 := ?_)
     refine stepL (fun v E1 => ∃ (va_17_3 : Option Addr) (vc_17_3 : Nat), v = .agg #[.bool false, .slice va_17_3 (digs R3).length vc_17_3] ∧ E1 = [dR (.slice va_14_3 (digs Q2).length vc_14_3) (digs Q2), dR (.slice va_17_3 (digs R3).length vc_17_3) (digs R3), boxR qq82 (.cells #[.bool false, .slice va_3_1 (digs 1).length vc_3_1] 167), dR (.slice va_3_1 (digs 1).length vc_3_1) (digs 1), boxR qq71 (.cells #[.bool false, .slice va_15_3 (digs R2).length vc_15_3] 167), boxR qq61 (.cells #[.bool false, .slice va_14_3 (digs Q2).length vc_14_3] 167), boxR (b + 1 + 1 + 1) (.cells #[.bool false, .slice none 0 0] 167), boxR (b + 1 + 1) (.cells #[.bool false, .slice none 0 0] 167)]) (h1 := fun Wx hSw => by (go_simp; refine symCallN ?_; have hh := raddN_at hSw R2 1 R3 _ _ (hSw.seesD 1 rfl) (hSw.seesD 3 rfl) (by have := HR2L.out; omega) (by have := digs_le (k := 1) (n := 1) (by decide); omega) XhR3.out; refine hh.mono ?_; rintro e W' ⟨va, vc, e1, e2⟩; refine ⟨_, _, e1, ⟨va, vc, rfl, rfl⟩, ?_⟩; exact Sep.into e2 1 rfl)) (h2 := fun v E1 hvE => ?_)
     obtain ⟨va_17_3, vc_17_3, rfl, rfl⟩ := hvE; simp only [Act.put, pa]; try dsimp only [List.set]
     refine qd undef [dR (.slice va_14_3 (digs Q2).length vc_14_3) (digs Q2), dR (.slice va_17_3 (digs R3).length vc_17_3) (digs R3), boxR qq82 (.cells #[.bool false, .slice va_3_1 (digs 1).length vc_3_1] 167), dR (.slice va_3_1 (digs 1).length vc_3_1) (digs 1), boxR qq71 (.cells #[.bool false, .slice va_17_3 (digs R3).length vc_17_3] 167), boxR qq61 (.cells #[.bool false, .slice va_14_3 (digs Q2).length vc_14_3] 167), boxR (b + 1 + 1 + 1) (.cells #[.bool false, .slice none 0 0] 167), boxR (b + 1 + 1) (.cells #[.bool false, .slice none 0 0] 167)] (h1 := fun Wx hSw => by (have hz := hSw.box (b := qq71) (o := .cells #[.bool false, .slice va_15_3 (digs R2).length vc_15_3] 167) 4 rfl; have z0 := cellAt hz 0 (v := .bool false) rfl; have y0 := frozenAt hz 0; have z1 := cellAt hz 1 (v := .slice va_15_3 (digs R2).length vc_15_3) rfl; have y1 := frozenAt hz 1; go_simp; exact ⟨rfl, (Sep.setBox (cs := #[.bool false, .slice va_15_3 (digs R2).length vc_15_3]) (t := 167) (Sep.setBox (cs := #[.bool false, .slice va_15_3 (digs R2).length vc_15_3]) (t := 167) hSw 4 rfl 0 (.bool false)) 4 rfl 1 (.slice va_17_3 (digs R3).length vc_17_3))⟩)) (h2 := ?_)
     refine doneL (h := fun w17 S => ?_)
     replace S := Lib.hid S
     go_wp2_with fail; go_meet; exact ⟨_, _, S.out⟩
   case rest =>
    obtain ⟨r3a, r3c, S⟩ := hcut
    replace S := Lib.hid S
    obtain ⟨cz, hcz⟩ : ∃ z, compZ (digs R3) (digs B) (max (digs R3).length (digs B).length) = z := ⟨_, rfl⟩
    have hge2 : 0 ≤ cz ↔ B ≤ R3 := by rw [← hcz]; have h := compZ_ge (digs_ok R3) (digs_ok B) (max (digs R3).length (digs B).length); rwa [List.take_of_length_le (by omega), List.take_of_length_le (by omega), digs_val, digs_val] at h
    have HCZ := Lib.hid hcz
    have HGE := Lib.hid hge2
    clear hcz hge2
    have hst := parts_step XhB0.out (A := A) (i := i) (q := Q) (r := R) HK.out.2.1 HK.out.2.2
    have HST := Lib.hid hst
    clear hst
    have HR3L : Hid ((digs R3).length ≤ 51) := Lib.hid (digs_le (by have := XhR3.out; have := XhR2.out; have := XhRB.out; have h := Xhbl.out; have := HU.out.2; rw [show 65536 ^ 51 = 65536 ^ 50 * 65536 from Nat.pow_succ ..]; omega))
    by_cases hc : 0 ≤ cz
    ·
     have HC := Lib.hid hc
     go_upto_region 11 with fail
     refine regionL (E := [dR (.slice va_14_3 (digs Q2).length vc_14_3) (digs Q2), dR (.slice r3a (digs R3).length r3c) (digs R3), boxR qq82 (.cells #[.bool false, .slice va_3_1 (digs 1).length vc_3_1] 167), dR (.slice va_3_1 (digs 1).length vc_3_1) (digs 1), boxR qq71 (.cells #[.bool false, .slice r3a (digs R3).length r3c] 167), boxR qq61 (.cells #[.bool false, .slice va_14_3 (digs Q2).length vc_14_3] 167), boxR (b + 1 + 1 + 1) (.cells #[.bool false, .slice none 0 0] 167), boxR (b + 1 + 1) (.cells #[.bool false, .slice none 0 0] 167)]) (base := bA) S.out ?_
     clear S
     refine qa ?_
     refine qd _ [dR (.slice va_14_3 (digs Q2).length vc_14_3) (digs Q2), dR (.slice r3a (digs R3).length r3c) (digs R3), boxR qq82 (.cells #[.bool false, .slice va_3_1 (digs 1).length vc_3_1] 167), dR (.slice va_3_1 (digs 1).length vc_3_1) (digs 1), boxR qq71 (.cells #[.bool false, .slice r3a (digs R3).length r3c] 167), boxR qq61 (.cells #[.bool false, .slice va_14_3 (digs Q2).length vc_14_3] 167), boxR (b + 1 + 1 + 1) (.cells #[.bool false, .slice none 0 0] 167), boxR (b + 1 + 1) (.cells #[.bool false, .slice none 0 0] 167)] (h1 := fun Wx hSw => by (have hz := hSw.box (b := qq71) (o := .cells #[.bool false, .slice r3a (digs R3).length r3c] 167) 4 rfl; have z0 := cellAt hz 0 (v := .bool false) rfl; have z1 := cellAt hz 1 (v := .slice r3a (digs R3).length r3c) rfl; go_simp; exact ⟨rfl, hSw⟩)) (h2 := ?_)
     refine qa ?_
     refine qc C1 ?_
     refine qd (.int .i64 cz) [dR (.slice va_14_3 (digs Q2).length vc_14_3) (digs Q2), dR (.slice r3a (digs R3).length r3c) (digs R3), boxR qq82 (.cells #[.bool false, .slice va_3_1 (digs 1).length vc_3_1] 167), dR (.slice va_3_1 (digs 1).length vc_3_1) (digs 1), boxR qq71 (.cells #[.bool false, .slice r3a (digs R3).length r3c] 167), boxR qq61 (.cells #[.bool false, .slice va_14_3 (digs Q2).length vc_14_3] 167), boxR (b + 1 + 1 + 1) (.cells #[.bool false, .slice none 0 0] 167), boxR (b + 1 + 1) (.cells #[.bool false, .slice none 0 0] 167)] (h1 := fun Wx hSw => by (go_simp; refine symCall ?_; have hh := rcomp_at hSw _ sb (digs R3) (digs B) (hSw.seesD 1 rfl) (HY.out.below hSw.below) (digs_ok _) (digs_ok _); rw [HCZ.out] at hh; exact hh)) (h2 := ?_)
     refine qa ?_
     refine doneL (h := fun w18 S => ?_)
     replace S := Lib.hid S
     clear hc
     have hle : B ≤ R3 := HGE.out.1 HC.out
     have hq := HST.out
     rw [XhR2.out, XhQ2.out, ← HU.out.1, XhR3.out] at hq
     rw [if_pos hle, if_pos hle] at hq
     have HQ := Lib.hid hq
     have HLE := Lib.hid hle
     clear hq hle
     obtain ⟨R4, hR4⟩ : ∃ r, R3 - B = r := ⟨_, rfl⟩
     obtain ⟨Q4, hQ4⟩ : ∃ r, Q2 + 1 = r := ⟨_, rfl⟩
     have XhR4 := Lib.hid hR4
     have XhQ4 := Lib.hid hQ4
     clear hR4 hQ4
     have HLV : Hid (valD (lessO (digs R3) (digs B) (digs R3).length) = R4) := Lib.hid (by rw [less_val (digs_ok _) (digs_ok _) (by rw [digs_val, digs_val]; exact HLE.out), digs_val, digs_val]; exact XhR4.out)
     have HQ2L : Hid ((digs Q2).length ≤ 51) := Lib.hid (digs_le (by have := XhQ2.out; have := XhQA.out; have h := Xhal.out; rw [show 65536 ^ 51 = 65536 ^ 50 * 65536 from Nat.pow_succ ..]; omega))
     go_upto_region 12 with fail
     refine regionL (E := [emptyR, dR (.slice va_14_3 (digs Q2).length vc_14_3) (digs Q2), dR (.slice r3a (digs R3).length r3c) (digs R3), boxR qq82 (.cells #[.bool false, .slice va_3_1 (digs 1).length vc_3_1] 167), dR (.slice va_3_1 (digs 1).length vc_3_1) (digs 1), boxR qq71 (.cells #[.bool false, .slice r3a (digs R3).length r3c] 167), boxR qq61 (.cells #[.bool false, .slice va_14_3 (digs Q2).length vc_14_3] 167), boxR (b + 1 + 1 + 1) (.cells #[.bool false, .slice none 0 0] 167), boxR (b + 1 + 1) (.cells #[.bool false, .slice none 0 0] 167)]) (base := bA) (Sep.putE S.out) ?_
     clear S
     refine qa ?_
     refine qd _ [emptyR, dR (.slice va_14_3 (digs Q2).length vc_14_3) (digs Q2), dR (.slice r3a (digs R3).length r3c) (digs R3), boxR qq82 (.cells #[.bool false, .slice va_3_1 (digs 1).length vc_3_1] 167), dR (.slice va_3_1 (digs 1).length vc_3_1) (digs 1), boxR qq71 (.cells #[.bool false, .slice r3a (digs R3).length r3c] 167), boxR qq61 (.cells #[.bool false, .slice va_14_3 (digs Q2).length vc_14_3] 167), boxR (b + 1 + 1 + 1) (.cells #[.bool false, .slice none 0 0] 167), boxR (b + 1 + 1) (.cells #[.bool false, .slice none 0 0] 167)] (h1 := fun Wx hSw => by (have hz := hSw.box (b := qq71) (o := .cells #[.bool false, .slice r3a (digs R3).length r3c] 167) 5 rfl; have z0 := cellAt hz 0 (v := .bool false) rfl; have z1 := cellAt hz 1 (v := .slice r3a (digs R3).length r3c) rfl; go_simp; exact ⟨rfl, hSw⟩)) (h2 := ?_)
     refine qa ?_
     refine qc C1 ?_
     refine stepL (fun v E1 => ∃ (va_19_2 : Option Addr) (vc_19_2 : Nat), v = .slice va_19_2 (digs R3).length vc_19_2 ∧ E1 = [dR (.slice va_19_2 (digs R3).length vc_19_2) (lessO (digs R3) (digs B) (digs R3).length), dR (.slice va_14_3 (digs Q2).length vc_14_3) (digs Q2), dR (.slice r3a (digs R3).length r3c) (digs R3), boxR qq82 (.cells #[.bool false, .slice va_3_1 (digs 1).length vc_3_1] 167), dR (.slice va_3_1 (digs 1).length vc_3_1) (digs 1), boxR qq71 (.cells #[.bool false, .slice r3a (digs R3).length r3c] 167), boxR qq61 (.cells #[.bool false, .slice va_14_3 (digs Q2).length vc_14_3] 167), boxR (b + 1 + 1 + 1) (.cells #[.bool false, .slice none 0 0] 167), boxR (b + 1 + 1) (.cells #[.bool false, .slice none 0 0] 167)]) (h1 := fun Wx hSw => by (go_simp; refine symCallN ?_; have hh := rless_at hSw _ sb (digs R3) (digs B) (hSw.seesD 2 rfl) (HY.out.below hSw.below) (digs_ok _) (digs_ok _) (by have := HR3L.out; omega); refine hh.mono ?_; rintro e W' ⟨va, vc, e1, e2⟩; refine ⟨_, _, e1, ⟨va, vc, rfl, rfl⟩, ?_⟩; exact Sep.into e2 0 rfl)) (h2 := fun v E1 hvE => ?_)
     obtain ⟨va_19_2, vc_19_2, rfl, rfl⟩ := hvE; simp only [Act.put, pa]; try dsimp only [List.set]
     refine stepL (fun v E1 => ∃ (va_19_3 : Option Addr) (vc_19_3 : Nat), v = .agg #[.bool false, .slice va_19_3 (digs R4).length vc_19_3] ∧ E1 = [dR (.slice va_19_2 (digs R3).length vc_19_2) (lessO (digs R3) (digs B) (digs R3).length), dR (.slice va_14_3 (digs Q2).length vc_14_3) (digs Q2), dR (.slice va_19_3 (digs R4).length vc_19_3) (digs R4), boxR qq82 (.cells #[.bool false, .slice va_3_1 (digs 1).length vc_3_1] 167), dR (.slice va_3_1 (digs 1).length vc_3_1) (digs 1), boxR qq71 (.cells #[.bool false, .slice r3a (digs R3).length r3c] 167), boxR qq61 (.cells #[.bool false, .slice va_14_3 (digs Q2).length vc_14_3] 167), boxR (b + 1 + 1 + 1) (.cells #[.bool false, .slice none 0 0] 167), boxR (b + 1 + 1) (.cells #[.bool false, .slice none 0 0] 167)]) (h1 := fun Wx hSw => by (go_simp; refine symCallN ?_; have hh := rwhole_at hSw false _ (lessO (digs R3) (digs B) (digs R3).length) (hSw.seesD 0 rfl) (lessO_ok _ _ _) (by rw [lessO_len]; have := HR3L.out; omega) (q := false) (D := digs R4) rfl (by rw [HLV.out]); refine hh.mono ?_; rintro e W' ⟨va, vc, e1, e2⟩; refine ⟨_, _, e1, ⟨va, vc, rfl, rfl⟩, ?_⟩; exact Sep.into e2 2 rfl)) (h2 := fun v E1 hvE => ?_)
     obtain ⟨va_19_3, vc_19_3, rfl, rfl⟩ := hvE; simp only [Act.put, pa]; try dsimp only [List.set]
     refine qd undef [dR (.slice va_19_2 (digs R3).length vc_19_2) (lessO (digs R3) (digs B) (digs R3).length), dR (.slice va_14_3 (digs Q2).length vc_14_3) (digs Q2), dR (.slice va_19_3 (digs R4).length vc_19_3) (digs R4), boxR qq82 (.cells #[.bool false, .slice va_3_1 (digs 1).length vc_3_1] 167), dR (.slice va_3_1 (digs 1).length vc_3_1) (digs 1), boxR qq71 (.cells #[.bool false, .slice va_19_3 (digs R4).length vc_19_3] 167), boxR qq61 (.cells #[.bool false, .slice va_14_3 (digs Q2).length vc_14_3] 167), boxR (b + 1 + 1 + 1) (.cells #[.bool false, .slice none 0 0] 167), boxR (b + 1 + 1) (.cells #[.bool false, .slice none 0 0] 167)] (h1 := fun Wx hSw => by (have hz := hSw.box (b := qq71) (o := .cells #[.bool false, .slice r3a (digs R3).length r3c] 167) 5 rfl; have z0 := cellAt hz 0 (v := .bool false) rfl; have y0 := frozenAt hz 0; have z1 := cellAt hz 1 (v := .slice r3a (digs R3).length r3c) rfl; have y1 := frozenAt hz 1; go_simp; exact ⟨rfl, (Sep.setBox (cs := #[.bool false, .slice r3a (digs R3).length r3c]) (t := 167) (Sep.setBox (cs := #[.bool false, .slice r3a (digs R3).length r3c]) (t := 167) hSw 5 rfl 0 (.bool false)) 5 rfl 1 (.slice va_19_3 (digs R4).length vc_19_3))⟩)) (h2 := ?_)
     refine doneL (h := fun w19 S => ?_)
     replace S := Lib.hid S
     go_upto_region 13 with fail
     refine regionL (E := [dR (.slice va_19_2 (digs R3).length vc_19_2) (lessO (digs R3) (digs B) (digs R3).length), dR (.slice va_14_3 (digs Q2).length vc_14_3) (digs Q2), dR (.slice va_19_3 (digs R4).length vc_19_3) (digs R4), boxR qq82 (.cells #[.bool false, .slice va_3_1 (digs 1).length vc_3_1] 167), dR (.slice va_3_1 (digs 1).length vc_3_1) (digs 1), boxR qq71 (.cells #[.bool false, .slice va_19_3 (digs R4).length vc_19_3] 167), boxR qq61 (.cells #[.bool false, .slice va_14_3 (digs Q2).length vc_14_3] 167), boxR (b + 1 + 1 + 1) (.cells #[.bool false, .slice none 0 0] 167), boxR (b + 1 + 1) (.cells #[.bool false, .slice none 0 0] 167)]) (base := bA) S.out ?_
     clear S
     refine qd _ [dR (.slice va_19_2 (digs R3).length vc_19_2) (lessO (digs R3) (digs B) (digs R3).length), dR (.slice va_14_3 (digs Q2).length vc_14_3) (digs Q2), dR (.slice va_19_3 (digs R4).length vc_19_3) (digs R4), boxR qq82 (.cells #[.bool false, .slice va_3_1 (digs 1).length vc_3_1] 167), dR (.slice va_3_1 (digs 1).length vc_3_1) (digs 1), boxR qq71 (.cells #[.bool false, .slice va_19_3 (digs R4).length vc_19_3] 167), boxR qq61 (.cells #[.bool false, .slice va_14_3 (digs Q2).length vc_14_3] 167), boxR (b + 1 + 1 + 1) (.cells #[.bool false, .slice none 0 0] 167), boxR (b + 1 + 1) (.cells #[.bool false, .slice none 0 0] 167)] (h1 := fun Wx hSw => by (have hz := hSw.box (b := qq61) (o := .cells #[.bool false, .slice va_14_3 (digs Q2).length vc_14_3] 167) 6 rfl; have z0 := cellAt hz 0 (v := .bool false) rfl; have z1 := cellAt hz 1 (v := .slice va_14_3 (digs Q2).length vc_14_3) rfl; go_simp; exact ⟨rfl, hSw⟩)) (h2 := ?_)
     refine qd _ [dR (.slice va_19_2 (digs R3).length vc_19_2) (lessO (digs R3) (digs B) (digs R3).length), dR (.slice va_14_3 (digs Q2).length vc_14_3) (digs Q2), dR (.slice va_19_3 (digs R4).length vc_19_3) (digs R4), boxR qq82 (.cells #[.bool false, .slice va_3_1 (digs 1).length vc_3_1] 167), dR (.slice va_3_1 (digs 1).length vc_3_1) (digs 1), boxR qq71 (.cells #[.bool false, .slice va_19_3 (digs R4).length vc_19_3] 167), boxR qq61 (.cells #[.bool false, .slice va_14_3 (digs Q2).length vc_14_3] 167), boxR (b + 1 + 1 + 1) (.cells #[.bool false, .slice none 0 0] 167), boxR (b + 1 + 1) (.cells #[.bool false, .slice none 0 0] 167)] (h1 := fun Wx hSw => by (have hz := hSw.box (b := qq82) (o := .cells #[.bool false, .slice va_3_1 (digs 1).length vc_3_1] 167) 3 rfl; have z0 := cellAt hz 0 (v := .bool false) rfl; have z1 := cellAt hz 1 (v := .slice va_3_1 (digs 1).length vc_3_1) rfl; go_simp; exact ⟨rfl, hSw⟩)) (h2 := ?_)
     refine stepL (fun v E1 => ∃ (va_20_3 : Option Addr) (vc_20_3 : Nat), v = .agg #[.bool false, .slice va_20_3 (digs Q4).length vc_20_3] ∧ E1 = [dR (.slice va_19_2 (digs R3).length vc_19_2) (lessO (digs R3) (digs B) (digs R3).length), dR (.slice va_20_3 (digs Q4).length vc_20_3) (digs Q4), dR (.slice va_19_3 (digs R4).length vc_19_3) (digs R4), boxR qq82 (.cells #[.bool false, .slice va_3_1 (digs 1).length vc_3_1] 167), dR (.slice va_3_1 (digs 1).length vc_3_1) (digs 1), boxR qq71 (.cells #[.bool false, .slice va_19_3 (digs R4).length vc_19_3] 167), boxR qq61 (.cells #[.bool false, .slice va_14_3 (digs Q2).length vc_14_3] 167), boxR (b + 1 + 1 + 1) (.cells #[.bool false, .slice none 0 0] 167), boxR (b + 1 + 1) (.cells #[.bool false, .slice none 0 0] 167)]) (h1 := fun Wx hSw => by (go_simp; refine symCallN ?_; have hh := raddN_at hSw Q2 1 Q4 _ _ (hSw.seesD 1 rfl) (hSw.seesD 4 rfl) (by have := HQ2L.out; omega) (by have := digs_le (k := 1) (n := 1) (by decide); omega) XhQ4.out; refine hh.mono ?_; rintro e W' ⟨va, vc, e1, e2⟩; refine ⟨_, _, e1, ⟨va, vc, rfl, rfl⟩, ?_⟩; exact Sep.into e2 1 rfl)) (h2 := fun v E1 hvE => ?_)
     obtain ⟨va_20_3, vc_20_3, rfl, rfl⟩ := hvE; simp only [Act.put, pa]; try dsimp only [List.set]
     refine qd undef [dR (.slice va_19_2 (digs R3).length vc_19_2) (lessO (digs R3) (digs B) (digs R3).length), dR (.slice va_20_3 (digs Q4).length vc_20_3) (digs Q4), dR (.slice va_19_3 (digs R4).length vc_19_3) (digs R4), boxR qq82 (.cells #[.bool false, .slice va_3_1 (digs 1).length vc_3_1] 167), dR (.slice va_3_1 (digs 1).length vc_3_1) (digs 1), boxR qq71 (.cells #[.bool false, .slice va_19_3 (digs R4).length vc_19_3] 167), boxR qq61 (.cells #[.bool false, .slice va_20_3 (digs Q4).length vc_20_3] 167), boxR (b + 1 + 1 + 1) (.cells #[.bool false, .slice none 0 0] 167), boxR (b + 1 + 1) (.cells #[.bool false, .slice none 0 0] 167)] (h1 := fun Wx hSw => by (have hz := hSw.box (b := qq61) (o := .cells #[.bool false, .slice va_14_3 (digs Q2).length vc_14_3] 167) 6 rfl; have z0 := cellAt hz 0 (v := .bool false) rfl; have y0 := frozenAt hz 0; have z1 := cellAt hz 1 (v := .slice va_14_3 (digs Q2).length vc_14_3) rfl; have y1 := frozenAt hz 1; go_simp; exact ⟨rfl, (Sep.setBox (cs := #[.bool false, .slice va_14_3 (digs Q2).length vc_14_3]) (t := 167) (Sep.setBox (cs := #[.bool false, .slice va_14_3 (digs Q2).length vc_14_3]) (t := 167) hSw 6 rfl 0 (.bool false)) 6 rfl 1 (.slice va_20_3 (digs Q4).length vc_20_3))⟩)) (h2 := ?_)
     refine doneL (h := fun w20 S => ?_)
     replace S := Lib.hid S
     replace S := Lib.hid S.out.tail
     have hi1 : IntKind.i64.wrap ((i : Int) - 1) = (i : Int) - 1 := IntWalk.i64_in _ (by have := HK.out.1; omega)
     go_wp2
     exact ⟨⟨i, Q4, R4, _, _, _, _, Lib.hid ⟨by have := HK.out.1; omega, by rw [HQ.out.1, XhQ4.out], by rw [HQ.out.2, XhR4.out]⟩, by first | rfl | trivial, S.out⟩, by first | (simp [intOf]; done) | (simp [intOf]; omega)⟩
    ·
     have HC := Lib.hid hc
     go_upto_region 11 with fail
     refine regionL (E := [dR (.slice va_14_3 (digs Q2).length vc_14_3) (digs Q2), dR (.slice r3a (digs R3).length r3c) (digs R3), boxR qq82 (.cells #[.bool false, .slice va_3_1 (digs 1).length vc_3_1] 167), dR (.slice va_3_1 (digs 1).length vc_3_1) (digs 1), boxR qq71 (.cells #[.bool false, .slice r3a (digs R3).length r3c] 167), boxR qq61 (.cells #[.bool false, .slice va_14_3 (digs Q2).length vc_14_3] 167), boxR (b + 1 + 1 + 1) (.cells #[.bool false, .slice none 0 0] 167), boxR (b + 1 + 1) (.cells #[.bool false, .slice none 0 0] 167)]) (base := bA) S.out ?_
     clear S
     refine qa ?_
     refine qd _ [dR (.slice va_14_3 (digs Q2).length vc_14_3) (digs Q2), dR (.slice r3a (digs R3).length r3c) (digs R3), boxR qq82 (.cells #[.bool false, .slice va_3_1 (digs 1).length vc_3_1] 167), dR (.slice va_3_1 (digs 1).length vc_3_1) (digs 1), boxR qq71 (.cells #[.bool false, .slice r3a (digs R3).length r3c] 167), boxR qq61 (.cells #[.bool false, .slice va_14_3 (digs Q2).length vc_14_3] 167), boxR (b + 1 + 1 + 1) (.cells #[.bool false, .slice none 0 0] 167), boxR (b + 1 + 1) (.cells #[.bool false, .slice none 0 0] 167)] (h1 := fun Wx hSw => by (have hz := hSw.box (b := qq71) (o := .cells #[.bool false, .slice r3a (digs R3).length r3c] 167) 4 rfl; have z0 := cellAt hz 0 (v := .bool false) rfl; have z1 := cellAt hz 1 (v := .slice r3a (digs R3).length r3c) rfl; go_simp; exact ⟨rfl, hSw⟩)) (h2 := ?_)
     refine qa ?_
     refine qc C1 ?_
     refine qd (.int .i64 cz) [dR (.slice va_14_3 (digs Q2).length vc_14_3) (digs Q2), dR (.slice r3a (digs R3).length r3c) (digs R3), boxR qq82 (.cells #[.bool false, .slice va_3_1 (digs 1).length vc_3_1] 167), dR (.slice va_3_1 (digs 1).length vc_3_1) (digs 1), boxR qq71 (.cells #[.bool false, .slice r3a (digs R3).length r3c] 167), boxR qq61 (.cells #[.bool false, .slice va_14_3 (digs Q2).length vc_14_3] 167), boxR (b + 1 + 1 + 1) (.cells #[.bool false, .slice none 0 0] 167), boxR (b + 1 + 1) (.cells #[.bool false, .slice none 0 0] 167)] (h1 := fun Wx hSw => by (go_simp; refine symCall ?_; have hh := rcomp_at hSw _ sb (digs R3) (digs B) (hSw.seesD 1 rfl) (HY.out.below hSw.below) (digs_ok _) (digs_ok _); rw [HCZ.out] at hh; exact hh)) (h2 := ?_)
     refine qa ?_
     refine doneL (h := fun w21 S => ?_)
     replace S := Lib.hid S
     clear hc
     have hle : ¬ B ≤ R3 := fun e => HC.out (HGE.out.2 e)
     have hq := HST.out
     rw [XhR2.out, XhQ2.out, ← HU.out.1, XhR3.out] at hq
     rw [if_neg hle, if_neg hle] at hq
     have HQ := Lib.hid hq
     have HLE := Lib.hid hle
     clear hq hle
     have hi1 : IntKind.i64.wrap ((i : Int) - 1) = (i : Int) - 1 := IntWalk.i64_in _ (by have := HK.out.1; omega)
     go_wp2
     exact ⟨⟨i, Q2, R3, _, _, _, _, Lib.hid ⟨by have := HK.out.1; omega, by rw [HQ.out.1], by rw [HQ.out.2]⟩, by first | rfl | trivial, S.out⟩, by first | (simp [intOf]; done) | (simp [intOf]; omega)⟩
end
end Go.Proofs.YtijlebhoapdfnaaGreat
