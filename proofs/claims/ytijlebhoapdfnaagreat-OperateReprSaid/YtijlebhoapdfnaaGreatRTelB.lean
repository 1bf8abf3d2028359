/- ch 16: the reference's teller. -/
import Derived.Test.YtijlebhoapdfnaaGreatRTell
import Derived.Test.YtijlebhoapdfnaaGreatTellE
import Derived.Test.YtijlebhoapdfnaaGreatRTelG
set_option maxRecDepth 100000
set_option maxHeartbeats 12800000
namespace Go.Proofs.YtijlebhoapdfnaaGreat
set_option linter.unusedSimpArgs false
open Go.RowKit
set_option linter.unusedVariables false
attribute [local irreducible] wpSeqS wpAnyS wpPreS
/-- A teller of the reference's, as it lies. -/
abbrev tlO (h : Nat) (q nm : ByteArray) : Obj := .cells #[.pointer (some ⟨h, 0, none⟩), .string q, .string nm, .int .i64 0, .int .i64 0, .string ⟨#[]⟩, .bool false] 149
abbrev tlR (t h : Nat) (T : TelM) : Res := boxR t (tlO h ⟨T.out.toArray⟩ T.fell.name)
section
variable {w W : World} {Rs : List Res} {t h : Nat} {H : HeapM} {T : TelM}
theorem rsay_ok (S : Sep w (tlR t h T :: Rs) W) (s : ByteArray) (hT : T.out.length ≤ 65536) (hl : s.size ≤ 9000000) : Calls Tryz.prog 170 #[.pointer (some ⟨t, 0, none⟩), .string s] W fun e W' => e = .returned (.tuple #[]) ∧ Sep w (tlR t h (T.say s.data.toList) :: Rs) W' := by
 obtain ⟨out, fell⟩ := T
 obtain ⟨q, hq⟩ : ∃ q, (⟨out.toArray⟩ : ByteArray) = q := ⟨_, rfl⟩
 have hql : q.size = out.length := by rw [← hq]; simp [ByteArray.size]
 have hsl : s.size = s.data.toList.length := rfl
 obtain ⟨l, hl2⟩ : ∃ l, s.data.toList = l := ⟨_, rfl⟩
 rw [hl2] at hsl
 rw [hl2]
 have hcat : q ++ s = ⟨(out ++ l).toArray⟩ := by rw [← hq, ← hl2]; apply ByteArray.ext; simp
 have hT2 : out.length ≤ 65536 := hT
 have hw1 : IntKind.i64.wrap ((q.size : Int) + s.size) = (q.size : Int) + s.size := IntWalk.i64_in _ (by omega)
 replace S : Sep w (boxR t (tlO h q fell.name) :: Rs) W := by rw [← hq]; exact S
 have Xhq := Lib.hid hq
 have Xhql := Lib.hid hql
 have Xhsl := Lib.hid hsl
 have Xhl2 := Lib.hid hl2
 have Xhcat := Lib.hid hcat
 have XhT2 := Lib.hid hT2
 have Xhl := Lib.hid hl
 clear hq hql hsl hl2 hcat hT hT2 hl
 cases fell with
 | memory =>
  obtain ⟨bA, hbs⟩ : ∃ l, l = Rs := ⟨_, rfl⟩
  have HBS := Lib.hid hbs
  replace S : Sep w ([boxR t (.cells #[.pointer (some ⟨h, 0, none⟩), .string q, .string memoryError, .int .i64 0, .int .i64 0, .string ⟨#[]⟩, .bool false] 149)] ++ bA) W := by rw [hbs]; exact S
  clear hbs
  replace S := Lib.hid S
  go_enter Tryz.func170, Tryz.ntmps170
  clear hw1
  go_upto_region 0 with fail
  refine regionL (E := [boxR t (.cells #[.pointer (some ⟨h, 0, none⟩), .string q, .string memoryError, .int .i64 0, .int .i64 0, .string ⟨#[]⟩, .bool false] 149)]) (base := bA) S.out ?_
  clear S
  iterate 3 refine qa ?_
  refine qd _ [boxR t (.cells #[.pointer (some ⟨h, 0, none⟩), .string q, .string memoryError, .int .i64 0, .int .i64 0, .string ⟨#[]⟩, .bool false] 149)] (h1 := fun Wx hSw => by (have hz := hSw.box (b := t) (o := .cells #[.pointer (some ⟨h, 0, none⟩), .string q, .string memoryError, .int .i64 0, .int .i64 0, .string ⟨#[]⟩, .bool false] 149) 0 rfl; have z0 := cellAt hz 0 (v := .pointer (some ⟨h, 0, none⟩)) rfl; have z1 := cellAt hz 1 (v := .string q) rfl; have z2 := cellAt hz 2 (v := .string memoryError) rfl; have z3 := cellAt hz 3 (v := .int .i64 0) rfl; have z4 := cellAt hz 4 (v := .int .i64 0) rfl; have z5 := cellAt hz 5 (v := .string ⟨#[]⟩) rfl; have z6 := cellAt hz 6 (v := .bool false) rfl; go_simp; exact ⟨rfl, hSw⟩)) (h2 := ?_)
  iterate 3 refine qa ?_
  iterate 9 refine qz ?_
  refine qa ?_
  refine doneL (h := fun w1 S => ?_)
  replace S := Lib.hid S
  go_upto_region 2 with fail
  refine regionL (E := [boxR t (.cells #[.pointer (some ⟨h, 0, none⟩), .string q, .string memoryError, .int .i64 0, .int .i64 0, .string ⟨#[]⟩, .bool false] 149)]) (base := bA) S.out ?_
  clear S
  iterate 3 refine qa ?_
  refine qd _ [boxR t (.cells #[.pointer (some ⟨h, 0, none⟩), .string q, .string memoryError, .int .i64 0, .int .i64 0, .string ⟨#[]⟩, .bool false] 149)] (h1 := fun Wx hSw => by (have hz := hSw.box (b := t) (o := .cells #[.pointer (some ⟨h, 0, none⟩), .string q, .string memoryError, .int .i64 0, .int .i64 0, .string ⟨#[]⟩, .bool false] 149) 0 rfl; have z0 := cellAt hz 0 (v := .pointer (some ⟨h, 0, none⟩)) rfl; have z1 := cellAt hz 1 (v := .string q) rfl; have z2 := cellAt hz 2 (v := .string memoryError) rfl; have z3 := cellAt hz 3 (v := .int .i64 0) rfl; have z4 := cellAt hz 4 (v := .int .i64 0) rfl; have z5 := cellAt hz 5 (v := .string ⟨#[]⟩) rfl; have z6 := cellAt hz 6 (v := .bool false) rfl; go_simp; exact ⟨rfl, hSw⟩)) (h2 := ?_)
  iterate 2 refine qa ?_
  refine doneL (h := fun w2 S => ?_)
  replace S := Lib.hid S
  have e9 : TelM.say ⟨out, .memory⟩ l = ⟨out, .memory⟩ := rfl
  go_wp2_with fail
  first | go_end0 | go_returns
  rw [e9]
  replace S := S.out
  rw [HBS.out] at S
  refine ⟨rfl, ?_⟩
  rw [← Xhq.out] at S; exact S
 | deep =>
  obtain ⟨bA, hbs⟩ : ∃ l, l = Rs := ⟨_, rfl⟩
  have HBS := Lib.hid hbs
  replace S : Sep w ([boxR t (.cells #[.pointer (some ⟨h, 0, none⟩), .string q, .string recursionError, .int .i64 0, .int .i64 0, .string ⟨#[]⟩, .bool false] 149)] ++ bA) W := by rw [hbs]; exact S
  clear hbs
  replace S := Lib.hid S
  go_enter Tryz.func170, Tryz.ntmps170
  clear hw1
  go_upto_region 0 with fail
  refine regionL (E := [boxR t (.cells #[.pointer (some ⟨h, 0, none⟩), .string q, .string recursionError, .int .i64 0, .int .i64 0, .string ⟨#[]⟩, .bool false] 149)]) (base := bA) S.out ?_
  clear S
  iterate 3 refine qa ?_
  refine qd _ [boxR t (.cells #[.pointer (some ⟨h, 0, none⟩), .string q, .string recursionError, .int .i64 0, .int .i64 0, .string ⟨#[]⟩, .bool false] 149)] (h1 := fun Wx hSw => by (have hz := hSw.box (b := t) (o := .cells #[.pointer (some ⟨h, 0, none⟩), .string q, .string recursionError, .int .i64 0, .int .i64 0, .string ⟨#[]⟩, .bool false] 149) 0 rfl; have z0 := cellAt hz 0 (v := .pointer (some ⟨h, 0, none⟩)) rfl; have z1 := cellAt hz 1 (v := .string q) rfl; have z2 := cellAt hz 2 (v := .string recursionError) rfl; have z3 := cellAt hz 3 (v := .int .i64 0) rfl; have z4 := cellAt hz 4 (v := .int .i64 0) rfl; have z5 := cellAt hz 5 (v := .string ⟨#[]⟩) rfl; have z6 := cellAt hz 6 (v := .bool false) rfl; go_simp; exact ⟨rfl, hSw⟩)) (h2 := ?_)
  iterate 3 refine qa ?_
  iterate 9 refine qz ?_
  refine qa ?_
  refine doneL (h := fun w3 S => ?_)
  replace S := Lib.hid S
  go_upto_region 2 with fail
  refine regionL (E := [boxR t (.cells #[.pointer (some ⟨h, 0, none⟩), .string q, .string recursionError, .int .i64 0, .int .i64 0, .string ⟨#[]⟩, .bool false] 149)]) (base := bA) S.out ?_
  clear S
  iterate 3 refine qa ?_
  refine qd _ [boxR t (.cells #[.pointer (some ⟨h, 0, none⟩), .string q, .string recursionError, .int .i64 0, .int .i64 0, .string ⟨#[]⟩, .bool false] 149)] (h1 := fun Wx hSw => by (have hz := hSw.box (b := t) (o := .cells #[.pointer (some ⟨h, 0, none⟩), .string q, .string recursionError, .int .i64 0, .int .i64 0, .string ⟨#[]⟩, .bool false] 149) 0 rfl; have z0 := cellAt hz 0 (v := .pointer (some ⟨h, 0, none⟩)) rfl; have z1 := cellAt hz 1 (v := .string q) rfl; have z2 := cellAt hz 2 (v := .string recursionError) rfl; have z3 := cellAt hz 3 (v := .int .i64 0) rfl; have z4 := cellAt hz 4 (v := .int .i64 0) rfl; have z5 := cellAt hz 5 (v := .string ⟨#[]⟩) rfl; have z6 := cellAt hz 6 (v := .bool false) rfl; go_simp; exact ⟨rfl, hSw⟩)) (h2 := ?_)
  iterate 2 refine qa ?_
  refine doneL (h := fun w4 S => ?_)
  replace S := Lib.hid S
  have e9 : TelM.say ⟨out, .deep⟩ l = ⟨out, .deep⟩ := rfl
  go_wp2_with fail
  first | go_end0 | go_returns
  rw [e9]
  replace S := S.out
  rw [HBS.out] at S
  refine ⟨rfl, ?_⟩
  rw [← Xhq.out] at S; exact S
 | no =>
  obtain ⟨lb, hlb⟩ : ∃ b, decide ((65536 : Int) < (q.size : Int) + s.size) = b := ⟨_, rfl⟩
  have HLB := Lib.hid hlb
  clear hlb
  obtain ⟨bA, hbs⟩ : ∃ l, l = Rs := ⟨_, rfl⟩
  have HBS := Lib.hid hbs
  replace S : Sep w ([boxR t (.cells #[.pointer (some ⟨h, 0, none⟩), .string q, .string ⟨#[]⟩, .int .i64 0, .int .i64 0, .string ⟨#[]⟩, .bool false] 149)] ++ bA) W := by rw [hbs]; exact S
  clear hbs
  replace S := Lib.hid S
  go_enter Tryz.func170, Tryz.ntmps170
  go_upto_region 0 with fail
  refine regionL (E := [boxR t (.cells #[.pointer (some ⟨h, 0, none⟩), .string q, .string ⟨#[]⟩, .int .i64 0, .int .i64 0, .string ⟨#[]⟩, .bool false] 149)]) (base := bA) S.out ?_
  clear S
  iterate 3 refine qa ?_
  refine qd _ [boxR t (.cells #[.pointer (some ⟨h, 0, none⟩), .string q, .string ⟨#[]⟩, .int .i64 0, .int .i64 0, .string ⟨#[]⟩, .bool false] 149)] (h1 := fun Wx hSw => by (have hz := hSw.box (b := t) (o := .cells #[.pointer (some ⟨h, 0, none⟩), .string q, .string ⟨#[]⟩, .int .i64 0, .int .i64 0, .string ⟨#[]⟩, .bool false] 149) 0 rfl; have z0 := cellAt hz 0 (v := .pointer (some ⟨h, 0, none⟩)) rfl; have z1 := cellAt hz 1 (v := .string q) rfl; have z2 := cellAt hz 2 (v := .string ⟨#[]⟩) rfl; have z3 := cellAt hz 3 (v := .int .i64 0) rfl; have z4 := cellAt hz 4 (v := .int .i64 0) rfl; have z5 := cellAt hz 5 (v := .string ⟨#[]⟩) rfl; have z6 := cellAt hz 6 (v := .bool false) rfl; go_simp; exact ⟨rfl, hSw⟩)) (h2 := ?_)
  iterate 6 refine qa ?_
  refine qd _ [boxR t (.cells #[.pointer (some ⟨h, 0, none⟩), .string q, .string ⟨#[]⟩, .int .i64 0, .int .i64 0, .string ⟨#[]⟩, .bool false] 149)] (h1 := fun Wx hSw => by (have hz := hSw.box (b := t) (o := .cells #[.pointer (some ⟨h, 0, none⟩), .string q, .string ⟨#[]⟩, .int .i64 0, .int .i64 0, .string ⟨#[]⟩, .bool false] 149) 0 rfl; have z0 := cellAt hz 0 (v := .pointer (some ⟨h, 0, none⟩)) rfl; have z1 := cellAt hz 1 (v := .string q) rfl; have z2 := cellAt hz 2 (v := .string ⟨#[]⟩) rfl; have z3 := cellAt hz 3 (v := .int .i64 0) rfl; have z4 := cellAt hz 4 (v := .int .i64 0) rfl; have z5 := cellAt hz 5 (v := .string ⟨#[]⟩) rfl; have z6 := cellAt hz 6 (v := .bool false) rfl; go_simp; exact ⟨rfl, hSw⟩)) (h2 := ?_)
  iterate 4 refine qa ?_
  refine qa (v := .bool lb) (hy := fun E Wx hSw => by (go_simp; try rw [HLB.out]; exact ⟨rfl, hSw⟩)) (h := ?_)
  refine qa ?_
  refine doneL (h := fun w5 S => ?_)
  replace S := Lib.hid S
  clear hw1
  cases lb with
  | true =>
   have KE : QuietC w bA 94 #[.string memoryError] (excN memoryError) := Lib.hid fun W Q T => by
    exact rexc_ok T memoryError
   go_upto_region 1 with fail
   refine regionL (E := [boxR t (.cells #[.pointer (some ⟨h, 0, none⟩), .string q, .string ⟨#[]⟩, .int .i64 0, .int .i64 0, .string ⟨#[]⟩, .bool false] 149)]) (base := bA) S.out ?_
   clear S
   refine qa ?_
   refine qk KE ?_
   iterate 2 refine qa ?_
   refine qd (undef) [boxR t (.cells #[.pointer (some ⟨h, 0, none⟩), .string q, .string memoryError, .int .i64 0, .int .i64 0, .string ⟨#[]⟩, .bool false] 149)] (h1 := fun Wx hSw => by (have hz := hSw.box (b := t) (o := .cells #[.pointer (some ⟨h, 0, none⟩), .string q, .string ⟨#[]⟩, .int .i64 0, .int .i64 0, .string ⟨#[]⟩, .bool false] 149) 0 rfl; have z2 := cellAt hz 2 (v := .string ⟨#[]⟩) rfl; have y2 := frozenAt hz 2; have z3 := cellAt hz 3 (v := .int .i64 0) rfl; have y3 := frozenAt hz 3; have z4 := cellAt hz 4 (v := .int .i64 0) rfl; have y4 := frozenAt hz 4; have z5 := cellAt hz 5 (v := .string ⟨#[]⟩) rfl; have y5 := frozenAt hz 5; have z6 := cellAt hz 6 (v := .bool false) rfl; have y6 := frozenAt hz 6; go_simp; exact ⟨rfl, (Sep.setBox (cs := #[.pointer (some ⟨h, 0, none⟩), .string q, .string memoryError, .int .i64 0, .int .i64 0, .string ⟨#[]⟩, .bool false]) (t := 149) (Sep.setBox (cs := #[.pointer (some ⟨h, 0, none⟩), .string q, .string memoryError, .int .i64 0, .int .i64 0, .string ⟨#[]⟩, .bool false]) (t := 149) (Sep.setBox (cs := #[.pointer (some ⟨h, 0, none⟩), .string q, .string memoryError, .int .i64 0, .int .i64 0, .string ⟨#[]⟩, .bool false]) (t := 149) (Sep.setBox (cs := #[.pointer (some ⟨h, 0, none⟩), .string q, .string memoryError, .int .i64 0, .int .i64 0, .string ⟨#[]⟩, .bool false]) (t := 149) (Sep.setBox (cs := #[.pointer (some ⟨h, 0, none⟩), .string q, .string ⟨#[]⟩, .int .i64 0, .int .i64 0, .string ⟨#[]⟩, .bool false]) (t := 149) hSw 0 rfl 2 (.string memoryError)) 0 rfl 3 (.int .i64 0)) 0 rfl 4 (.int .i64 0)) 0 rfl 5 (.string ⟨#[]⟩)) 0 rfl 6 (.bool false))⟩)) (h2 := ?_)
   refine doneL (h := fun w6 S => ?_)
   replace S := Lib.hid S
   clear KE
   go_upto_region 2 with fail
   refine regionL (E := [boxR t (.cells #[.pointer (some ⟨h, 0, none⟩), .string q, .string memoryError, .int .i64 0, .int .i64 0, .string ⟨#[]⟩, .bool false] 149)]) (base := bA) S.out ?_
   clear S
   iterate 3 refine qa ?_
   refine qd _ [boxR t (.cells #[.pointer (some ⟨h, 0, none⟩), .string q, .string memoryError, .int .i64 0, .int .i64 0, .string ⟨#[]⟩, .bool false] 149)] (h1 := fun Wx hSw => by (have hz := hSw.box (b := t) (o := .cells #[.pointer (some ⟨h, 0, none⟩), .string q, .string memoryError, .int .i64 0, .int .i64 0, .string ⟨#[]⟩, .bool false] 149) 0 rfl; have z0 := cellAt hz 0 (v := .pointer (some ⟨h, 0, none⟩)) rfl; have z1 := cellAt hz 1 (v := .string q) rfl; have z2 := cellAt hz 2 (v := .string memoryError) rfl; have z3 := cellAt hz 3 (v := .int .i64 0) rfl; have z4 := cellAt hz 4 (v := .int .i64 0) rfl; have z5 := cellAt hz 5 (v := .string ⟨#[]⟩) rfl; have z6 := cellAt hz 6 (v := .bool false) rfl; go_simp; exact ⟨rfl, hSw⟩)) (h2 := ?_)
   iterate 2 refine qa ?_
   refine doneL (h := fun w7 S => ?_)
   replace S := Lib.hid S
   have e9 : TelM.say ⟨out, .no⟩ l = ⟨out, .memory⟩ := by unfold TelM.say; simp only; rw [if_pos (by have := of_decide_eq_true HLB.out; have := Xhql.out; have := Xhsl.out; omega)]
   go_wp2_with fail
   first | go_end0 | go_returns
   rw [e9]
   replace S := S.out
   rw [HBS.out] at S
   refine ⟨rfl, ?_⟩
   rw [← Xhq.out] at S; exact S
  | false =>
   go_upto_region 2 with fail
   refine regionL (E := [boxR t (.cells #[.pointer (some ⟨h, 0, none⟩), .string q, .string ⟨#[]⟩, .int .i64 0, .int .i64 0, .string ⟨#[]⟩, .bool false] 149)]) (base := bA) S.out ?_
   clear S
   iterate 3 refine qa ?_
   refine qd _ [boxR t (.cells #[.pointer (some ⟨h, 0, none⟩), .string q, .string ⟨#[]⟩, .int .i64 0, .int .i64 0, .string ⟨#[]⟩, .bool false] 149)] (h1 := fun Wx hSw => by (have hz := hSw.box (b := t) (o := .cells #[.pointer (some ⟨h, 0, none⟩), .string q, .string ⟨#[]⟩, .int .i64 0, .int .i64 0, .string ⟨#[]⟩, .bool false] 149) 0 rfl; have z0 := cellAt hz 0 (v := .pointer (some ⟨h, 0, none⟩)) rfl; have z1 := cellAt hz 1 (v := .string q) rfl; have z2 := cellAt hz 2 (v := .string ⟨#[]⟩) rfl; have z3 := cellAt hz 3 (v := .int .i64 0) rfl; have z4 := cellAt hz 4 (v := .int .i64 0) rfl; have z5 := cellAt hz 5 (v := .string ⟨#[]⟩) rfl; have z6 := cellAt hz 6 (v := .bool false) rfl; go_simp; exact ⟨rfl, hSw⟩)) (h2 := ?_)
   iterate 2 refine qa ?_
   refine doneL (h := fun w8 S => ?_)
   replace S := Lib.hid S
   have hcs : ¬ 9223372036854775807 < q.size + s.size := by have := Xhql.out; have := XhT2.out; have := Xhl.out; omega
   go_upto_region 3 with fail
   refine regionL (E := [boxR t (.cells #[.pointer (some ⟨h, 0, none⟩), .string q, .string ⟨#[]⟩, .int .i64 0, .int .i64 0, .string ⟨#[]⟩, .bool false] 149)]) (base := bA) S.out ?_
   clear S
   iterate 4 refine qa ?_
   refine qd _ [boxR t (.cells #[.pointer (some ⟨h, 0, none⟩), .string q, .string ⟨#[]⟩, .int .i64 0, .int .i64 0, .string ⟨#[]⟩, .bool false] 149)] (h1 := fun Wx hSw => by (have hz := hSw.box (b := t) (o := .cells #[.pointer (some ⟨h, 0, none⟩), .string q, .string ⟨#[]⟩, .int .i64 0, .int .i64 0, .string ⟨#[]⟩, .bool false] 149) 0 rfl; have z0 := cellAt hz 0 (v := .pointer (some ⟨h, 0, none⟩)) rfl; have z1 := cellAt hz 1 (v := .string q) rfl; have z2 := cellAt hz 2 (v := .string ⟨#[]⟩) rfl; have z3 := cellAt hz 3 (v := .int .i64 0) rfl; have z4 := cellAt hz 4 (v := .int .i64 0) rfl; have z5 := cellAt hz 5 (v := .string ⟨#[]⟩) rfl; have z6 := cellAt hz 6 (v := .bool false) rfl; go_simp; exact ⟨rfl, hSw⟩)) (h2 := ?_)
   iterate 4 refine qa ?_
   refine qd (undef) [boxR t (.cells #[.pointer (some ⟨h, 0, none⟩), .string (q ++ s), .string ⟨#[]⟩, .int .i64 0, .int .i64 0, .string ⟨#[]⟩, .bool false] 149)] (h1 := fun Wx hSw => by (have hz := hSw.box (b := t) (o := .cells #[.pointer (some ⟨h, 0, none⟩), .string q, .string ⟨#[]⟩, .int .i64 0, .int .i64 0, .string ⟨#[]⟩, .bool false] 149) 0 rfl; have z1 := cellAt hz 1 (v := .string q) rfl; have y1 := frozenAt hz 1; go_simp; exact ⟨rfl, (Sep.setBox (cs := #[.pointer (some ⟨h, 0, none⟩), .string q, .string ⟨#[]⟩, .int .i64 0, .int .i64 0, .string ⟨#[]⟩, .bool false]) (t := 149) hSw 0 rfl 1 (.string (q ++ s)))⟩)) (h2 := ?_)
   refine doneL (h := fun w9 S => ?_)
   replace S := Lib.hid S
   clear hcs
   have e9 : TelM.say ⟨out, .no⟩ l = ⟨out ++ l, .no⟩ := by unfold TelM.say; simp only; rw [if_neg (by have := of_decide_eq_false HLB.out; have := Xhql.out; have := Xhsl.out; omega)]
   go_wp2_with fail
   first | go_end0 | go_returns
   rw [e9]
   replace S := S.out
   rw [HBS.out] at S
   refine ⟨rfl, ?_⟩
   rw [Xhcat.out] at S; exact S
theorem robj_ok (S : Sep w Rs W) (j : Nat) (hj : Rs[j]? = some (tlR t h T)) (i : Nat) (hi : Rs[i]? = some (refR h H)) (v : V) (hw : H.wholeB v = false) (hk : 0 ≤ H.kind v ∧ H.kind v ≤ 12) (hnl : (H.name v).size ≤ 1000000) : Calls Tryz.prog 202 #[.pointer (some ⟨t, 0, none⟩), .agg #[.int .i64 v.kind, .int .i64 v.n, .string v.s]] W fun e W' => e = .returned (.string ⟨(60 :: (wordK (H.kind v) ++ (if namedK (H.kind v) = true then (H.name v).data.toList else []) ++ [62])).toArray⟩) ∧ Sep w Rs W' := by
 obtain ⟨kx, hK⟩ : ∃ k, H.kind v = k := ⟨_, rfl⟩
 obtain ⟨nm, hN⟩ : ∃ n, H.name v = n := ⟨_, rfl⟩
 have hr : kx ≠ 1 ∧ kx ≠ 2 ∧ kx ≠ 3 := by unfold HeapM.wholeB HeapM.rowB at hw; rw [hK] at hw; simp at hw; omega
 rw [hK] at hk ⊢
 rw [hN] at hnl ⊢
 have HK := Lib.hid hK
 have HN := Lib.hid hN
 have HR := Lib.hid (And.intro hr hk)
 have HNL := Lib.hid hnl
 clear hK hN hr hk hw hnl
 obtain ⟨b, hb⟩ : ∃ gx_, (W.heap.size) = gx_ := ⟨_, rfl⟩
 replace S := (S.alloc (.cells #[.int .i64 v.kind, .int .i64 v.n, .string v.s] 24))
 simp only [World.size_alloc, hb] at S
 obtain ⟨bA, hbs⟩ : ∃ l, l = boxV b v :: Rs := ⟨_, rfl⟩
 have HBS := Lib.hid hbs
 replace S := enterP (w := w) (all := [boxV b v]) (E := []) (B := [boxV b v]) (Rs := Rs) S hbs (perm_of [0] (by show (List.range' 0 1).Perm [0]; decide) (by rfl))
 have C0 := baseC3 (w := w) (b := b) hbs 0 rfl
 have Ct : Hid (∀ W (Q : List Res), Sep w (Q ++ bA) W → W.cell? ⟨t, 0, none⟩ = some (.pointer (some ⟨h, 0, none⟩))) := Lib.hid fun W Q T => by
  rw [HBS.out] at T
  exact cellAt (T.box (b := t) (Q.length + 1 + j) (by rw [List.getElem?_append_right (by omega), show Q.length + 1 + j - Q.length = j + 1 by omega]; simpa using hj)) 0 rfl
 clear hbs
 replace S := Lib.hid S
 go_enter Tryz.func202, Tryz.ntmps202
 go_upto_region 1 with fail
 try simp only [World.size_alloc, hb]
 clear hb
 have KK : QuietC w bA 60 #[hpV h, agV v] (.int .i64 kx) := Lib.hid fun W Q T => by
  rw [HBS.out] at T ⊢
  exact rkind_at T (Q.length + 1 + i) (atI1 hi) v kx HK.out
 have KN : QuietC w bA 74 #[hpV h, agV v] (.string nm) := Lib.hid fun W Q T => by
  rw [HBS.out] at T ⊢
  exact rname_at T (Q.length + 1 + i) (atI1 hi) v nm HN.out
 refine regionP 7 0 (E := []) (base := bA) S.out ?_
 clear S
 iterate 3 refine qp ?_
 refine qpc Ct ?_
 refine qpc C0 ?_
 refine qpk KN ?_
 refine qp ?_
 refine endP ?_
 refine doneS (h := fun w1 S => ?_)
 replace S := Lib.hid S
 go_upto_region 2 with fail
 refine regionP 6 0 (E := []) (base := bA) S.out ?_
 clear S
 iterate 3 refine qp ?_
 refine qpc Ct ?_
 refine qpc C0 ?_
 refine qpk KK ?_
 refine endP ?_
 refine doneS (h := fun w2 S => ?_)
 replace S := Lib.hid S
 clear KK KN
 by_cases e4 : kx = 4
 ·
  subst e4
  have q1 : ¬ 9223372036854775807 < 10 + nm.size := by have := HNL.out; omega
  have q2 : ¬ 9223372036854775807 < 10 + nm.size + 1 := by have := HNL.out; omega
  go_wp2
  refine bodyPost_ret (v := .string (⟨#[60, 102, 117, 110, 99, 116, 105, 111, 110, 32]⟩ ++ nm ++ ⟨#[62]⟩)) ?_ ?_ ?_
  ·
   simp [results, Tryz.results202, go_sem]
  ·
   rfl
  refine ⟨?_, ?_⟩
  ·
   first | (congr 2; done) | (congr 2; apply ByteArray.ext; simp [wordK, namedK])
  replace S := S.out
  rw [HBS.out] at S
  exact S.tail
 by_cases e5 : kx = 5
 ·
  subst e5
  clear e4
  have q1 : ¬ 9223372036854775807 < 7 + nm.size := by have := HNL.out; omega
  have q2 : ¬ 9223372036854775807 < 7 + nm.size + 1 := by have := HNL.out; omega
  go_wp2
  refine bodyPost_ret (v := .string (⟨#[60, 99, 108, 97, 115, 115, 32]⟩ ++ nm ++ ⟨#[62]⟩)) ?_ ?_ ?_
  ·
   simp [results, Tryz.results202, go_sem]
  ·
   rfl
  refine ⟨?_, ?_⟩
  ·
   first | (congr 2; done) | (congr 2; apply ByteArray.ext; simp [wordK, namedK])
  replace S := S.out
  rw [HBS.out] at S
  exact S.tail
 by_cases e6 : kx = 6
 ·
  subst e6
  clear e4 e5
  have q1 : ¬ 9223372036854775807 < 1 + nm.size := by have := HNL.out; omega
  have q2 : ¬ 9223372036854775807 < 1 + nm.size + 1 := by have := HNL.out; omega
  go_wp2
  refine bodyPost_ret (v := .string (⟨#[60]⟩ ++ nm ++ ⟨#[62]⟩)) ?_ ?_ ?_
  ·
   simp [results, Tryz.results202, go_sem]
  ·
   rfl
  refine ⟨?_, ?_⟩
  ·
   first | (congr 2; done) | (congr 2; apply ByteArray.ext; simp [wordK, namedK])
  replace S := S.out
  rw [HBS.out] at S
  exact S.tail
 by_cases e7 : kx = 7
 ·
  subst e7
  clear e4 e5 e6
  have q1 : ¬ 9223372036854775807 < 8 + nm.size := by have := HNL.out; omega
  have q2 : ¬ 9223372036854775807 < 8 + nm.size + 1 := by have := HNL.out; omega
  go_wp2
  refine bodyPost_ret (v := .string (⟨#[60, 109, 101, 116, 104, 111, 100, 32]⟩ ++ nm ++ ⟨#[62]⟩)) ?_ ?_ ?_
  ·
   simp [results, Tryz.results202, go_sem]
  ·
   rfl
  refine ⟨?_, ?_⟩
  ·
   first | (congr 2; done) | (congr 2; apply ByteArray.ext; simp [wordK, namedK])
  replace S := S.out
  rw [HBS.out] at S
  exact S.tail
 by_cases e8 : kx = 8
 ·
  subst e8
  clear e4 e5 e6 e7
  have q1 : ¬ 9223372036854775807 < 11 + nm.size := by have := HNL.out; omega
  have q2 : ¬ 9223372036854775807 < 11 + nm.size + 1 := by have := HNL.out; omega
  go_wp2
  refine bodyPost_ret (v := .string (⟨#[60, 103, 101, 110, 101, 114, 97, 116, 111, 114, 32]⟩ ++ nm ++ ⟨#[62]⟩)) ?_ ?_ ?_
  ·
   simp [results, Tryz.results202, go_sem]
  ·
   rfl
  refine ⟨?_, ?_⟩
  ·
   first | (congr 2; done) | (congr 2; apply ByteArray.ext; simp [wordK, namedK])
  replace S := S.out
  rw [HBS.out] at S
  exact S.tail
 by_cases e12 : kx = 12
 ·
  subst e12
  clear e4 e5 e6 e7 e8
  have q1 : ¬ 9223372036854775807 < 8 + nm.size := by have := HNL.out; omega
  have q2 : ¬ 9223372036854775807 < 8 + nm.size + 1 := by have := HNL.out; omega
  go_wp2
  refine bodyPost_ret (v := .string (⟨#[60, 109, 111, 100, 117, 108, 101, 32]⟩ ++ nm ++ ⟨#[62]⟩)) ?_ ?_ ?_
  ·
   simp [results, Tryz.results202, go_sem]
  ·
   rfl
  refine ⟨?_, ?_⟩
  ·
   first | (congr 2; done) | (congr 2; apply ByteArray.ext; simp [wordK, namedK])
  replace S := S.out
  rw [HBS.out] at S
  exact S.tail
 by_cases e9 : kx = 9
 ·
  subst e9
  clear e4 e5 e6 e7 e8 e12
  go_wp2
  refine bodyPost_ret (v := .string ⟨#[60, 105, 116, 101, 114, 97, 116, 111, 114, 62]⟩) ?_ ?_ ?_
  ·
   simp [results, Tryz.results202, go_sem]
  ·
   rfl
  refine ⟨?_, ?_⟩
  ·
   first | (congr 2; done) | (congr 2; apply ByteArray.ext; simp [wordK, namedK])
  replace S := S.out
  rw [HBS.out] at S
  exact S.tail
 by_cases e10 : kx = 10
 ·
  subst e10
  clear e4 e5 e6 e7 e8 e12 e9
  go_wp2
  refine bodyPost_ret (v := .string ⟨#[60, 99, 101, 108, 108, 62]⟩) ?_ ?_ ?_
  ·
   simp [results, Tryz.results202, go_sem]
  ·
   rfl
  refine ⟨?_, ?_⟩
  ·
   first | (congr 2; done) | (congr 2; apply ByteArray.ext; simp [wordK, namedK])
  replace S := S.out
  rw [HBS.out] at S
  exact S.tail
 by_cases e11 : kx = 11
 ·
  subst e11
  clear e4 e5 e6 e7 e8 e12 e9 e10
  go_wp2
  refine bodyPost_ret (v := .string ⟨#[60, 119, 101, 97, 107, 62]⟩) ?_ ?_ ?_
  ·
   simp [results, Tryz.results202, go_sem]
  ·
   rfl
  refine ⟨?_, ?_⟩
  ·
   first | (congr 2; done) | (congr 2; apply ByteArray.ext; simp [wordK, namedK])
  replace S := S.out
  rw [HBS.out] at S
  exact S.tail
 obtain rfl : kx = 0 := by have := HR.out; omega
 clear e4 e5 e6 e7 e8 e12 e9 e10 e11
 go_wp2
 refine bodyPost_ret (v := .string ⟨#[60, 100, 101, 97, 100, 62]⟩) ?_ ?_ ?_
 ·
  simp [results, Tryz.results202, go_sem]
 ·
  rfl
 refine ⟨?_, ?_⟩
 ·
  congr 2
 replace S := S.out
 rw [HBS.out] at S
 exact S.tail
theorem rplain_ok (S : Sep w Rs W) (j : Nat) (hj : Rs[j]? = some (tlR t h T)) (i : Nat) (hi : Rs[i]? = some (refR h H)) (v : V) (hv : H.wholeB v = false ∧ (0 ≤ H.kind v ∧ H.kind v ≤ 12) ∧ (H.name v).size ≤ 1000000 ∧ v.s.size ≤ 1000000 ∧ okI v.n) : Calls Tryz.prog 171 #[.pointer (some ⟨t, 0, none⟩), .agg #[.int .i64 v.kind, .int .i64 v.n, .string v.s]] W fun e W' => e = .returned (.string ⟨(H.plainL v).toArray⟩) ∧ Sep w Rs W' := by
 obtain ⟨hw, hk, hnl, hs, hn⟩ := hv
 have HV := Lib.hid (And.intro hw (And.intro hk (And.intro hnl (And.intro hs hn))))
 clear hw hk hnl hs hn
 obtain ⟨OL, hOL⟩ : ∃ l, (60 :: (wordK (H.kind v) ++ (if namedK (H.kind v) = true then (H.name v).data.toList else []) ++ [62])) = l := ⟨_, rfl⟩
 have HOL := Lib.hid hOL
 clear hOL
 obtain ⟨b, hb⟩ : ∃ gx_, (W.heap.size) = gx_ := ⟨_, rfl⟩
 replace S := (S.alloc (.cells #[.int .i64 v.kind, .int .i64 v.n, .string v.s] 24))
 simp only [World.size_alloc, hb] at S
 obtain ⟨bA, hbs⟩ : ∃ l, l = boxV b v :: Rs := ⟨_, rfl⟩
 have HBS := Lib.hid hbs
 replace S := enterP (w := w) (all := [boxV b v]) (E := []) (B := [boxV b v]) (Rs := Rs) S hbs (perm_of [0] (by show (List.range' 0 1).Perm [0]; decide) (by rfl))
 have C0 := baseC3 (w := w) (b := b) hbs 0 rfl
 clear hbs
 replace S := Lib.hid S
 go_enter Tryz.func171, Tryz.ntmps171
 go_upto_region 1 with fail
 try simp only [World.size_alloc, hb]
 clear hb
 have KT : QuietC w bA 200 #[.int .i64 v.n] (.string ⟨(textN v.n).toArray⟩) := Lib.hid fun W Q T => by
  exact rtext_ok T v.n HV.out.2.2.2.2
 have KQ : QuietC w bA 201 #[.string v.s] (.string ⟨(quoteL v.s.data.toList).toArray⟩) := Lib.hid fun W Q T => by
  exact rquote_ok T v.s HV.out.2.2.2.1
 have KO : QuietC w bA 202 #[.pointer (some ⟨t, 0, none⟩), agV v] (.string ⟨OL.toArray⟩) := Lib.hid fun W Q T => by
  rw [HBS.out] at T ⊢
  have hh := robj_ok T (Q.length + 1 + j) (by rw [List.getElem?_append_right (by omega), show Q.length + 1 + j - Q.length = j + 1 by omega]; simpa using hj) (Q.length + 1 + i) (atI1 hi) v HV.out.1 HV.out.2.1 HV.out.2.2.1
  rw [HOL.out] at hh
  exact hh
 refine regionL (E := []) (base := bA) S.out ?_
 clear S
 refine qa ?_
 refine qc C0 ?_
 refine doneL (h := fun w1 S => ?_)
 replace S := Lib.hid S
 by_cases e0 : v.kind = 0
 ·
  have PL : H.plainL v = [78, 111, 110, 101] := by unfold HeapM.plainL; simp [e0]
  have PLH := Lib.hid PL
  clear PL
  have f0 : (v.kind == 0) = true := by simp [e0]
  clear e0
  go_wp2
  refine bodyPost_ret (v := .string ⟨#[78, 111, 110, 101]⟩) ?_ ?_ ?_
  ·
   simp [results, Tryz.results171, go_sem]
  ·
   rfl
  refine ⟨?_, ?_⟩
  ·
   rw [PLH.out]; try rfl
  replace S := S.out
  rw [HBS.out] at S
  exact S.tail
 by_cases e1 : v.kind = 1
 ·
  have PL : H.plainL v = if v.n ≠ 0 then [84, 114, 117, 101] else [70, 97, 108, 115, 101] := by unfold HeapM.plainL; simp [e1]
  have PLH := Lib.hid PL
  clear PL
  have f0 : (v.kind == 0) = false := by simp [e0]
  have f1 : (v.kind == 1) = true := by simp [e1]
  clear e0 e1
  go_upto_region 5 with fail
  refine regionL (E := []) (base := bA) S.out ?_
  clear S
  refine qa ?_
  refine qc C0 ?_
  refine qa ?_
  refine doneL (h := fun w2 S => ?_)
  replace S := Lib.hid S
  by_cases en : v.n ≠ 0
  ·
   have f6 : (v.n != 0) = true := by simpa using en
   replace PLH : Hid (H.plainL v = [84, 114, 117, 101]) := Lib.hid (by rw [PLH.out, if_pos en])
   clear en
   go_wp2
   refine bodyPost_ret (v := .string ⟨#[84, 114, 117, 101]⟩) ?_ ?_ ?_
   ·
    simp [results, Tryz.results171, go_sem]
   ·
    rfl
   refine ⟨?_, ?_⟩
   ·
    rw [PLH.out]; try rfl
   replace S := S.out
   rw [HBS.out] at S
   exact S.tail
  ·
   have f6 : (v.n != 0) = false := by simpa using en
   replace PLH : Hid (H.plainL v = [70, 97, 108, 115, 101]) := Lib.hid (by rw [PLH.out, if_neg en])
   clear en
   go_wp2
   refine bodyPost_ret (v := .string ⟨#[70, 97, 108, 115, 101]⟩) ?_ ?_ ?_
   ·
    simp [results, Tryz.results171, go_sem]
   ·
    rfl
   refine ⟨?_, ?_⟩
   ·
    rw [PLH.out]; try rfl
   replace S := S.out
   rw [HBS.out] at S
   exact S.tail
 by_cases e2 : v.kind = 2
 ·
  have PL : H.plainL v = textN v.n := by unfold HeapM.plainL; simp [e2]
  have PLH := Lib.hid PL
  clear PL
  have f0 : (v.kind == 0) = false := by simp [e0]
  have f1 : (v.kind == 1) = false := by simp [e1]
  have f2 : (v.kind == 2) = true := by simp [e2]
  clear e0 e1 e2
  go_upto_region 9 with fail
  refine regionL (E := []) (base := bA) S.out ?_
  clear S
  refine qa ?_
  refine qc C0 ?_
  refine qk KT ?_
  refine qa ?_
  refine doneL (h := fun w3 S => ?_)
  replace S := Lib.hid S
  go_wp2
  refine bodyPost_ret (v := .string ⟨(textN v.n).toArray⟩) ?_ ?_ ?_
  ·
   simp [results, Tryz.results171, go_sem]
  ·
   rfl
  refine ⟨?_, ?_⟩
  ·
   rw [PLH.out]; try rfl
  replace S := S.out
  rw [HBS.out] at S
  exact S.tail
 by_cases e3 : v.kind = 3
 ·
  have PL : H.plainL v = quoteL v.s.data.toList := by unfold HeapM.plainL; simp [e3]
  have PLH := Lib.hid PL
  clear PL
  have f0 : (v.kind == 0) = false := by simp [e0]
  have f1 : (v.kind == 1) = false := by simp [e1]
  have f2 : (v.kind == 2) = false := by simp [e2]
  have f3 : (v.kind == 3) = true := by simp [e3]
  clear e0 e1 e2 e3
  go_upto_region 11 with fail
  refine regionL (E := []) (base := bA) S.out ?_
  clear S
  refine qa ?_
  refine qc C0 ?_
  refine qk KQ ?_
  refine qa ?_
  refine doneL (h := fun w4 S => ?_)
  replace S := Lib.hid S
  go_wp2
  refine bodyPost_ret (v := .string ⟨(quoteL v.s.data.toList).toArray⟩) ?_ ?_ ?_
  ·
   simp [results, Tryz.results171, go_sem]
  ·
   rfl
  refine ⟨?_, ?_⟩
  ·
   rw [PLH.out]; try rfl
  replace S := S.out
  rw [HBS.out] at S
  exact S.tail
 by_cases e5 : v.kind = 5
 ·
  have PL : H.plainL v = [60, 98, 117, 105, 108, 116, 105, 110, 32] ++ v.s.data.toList ++ [62] := by unfold HeapM.plainL; simp [e5]
  have PLH := Lib.hid PL
  clear PL
  have f0 : (v.kind == 0) = false := by simp [e0]
  have f1 : (v.kind == 1) = false := by simp [e1]
  have f2 : (v.kind == 2) = false := by simp [e2]
  have f3 : (v.kind == 3) = false := by simp [e3]
  have f5 : (v.kind == 5) = true := by simp [e5]
  clear e0 e1 e2 e3 e5
  have q1 : ¬ 9223372036854775807 < 9 + v.s.size := by have := HV.out.2.2.2.1; omega
  have q2 : ¬ 9223372036854775807 < 9 + v.s.size + 1 := by have := HV.out.2.2.2.1; omega
  go_upto_region 13 with fail
  refine regionL (E := []) (base := bA) S.out ?_
  clear S
  refine qa ?_
  refine qc C0 ?_
  iterate 3 refine qa ?_
  refine doneL (h := fun w5 S => ?_)
  replace S := Lib.hid S
  go_wp2
  refine bodyPost_ret (v := .string (⟨#[60, 98, 117, 105, 108, 116, 105, 110, 32]⟩ ++ v.s ++ ⟨#[62]⟩)) ?_ ?_ ?_
  ·
   simp [results, Tryz.results171, go_sem]
  ·
   rfl
  refine ⟨?_, ?_⟩
  ·
   rw [PLH.out]; first | (congr 2; done) | (congr 2; apply ByteArray.ext; simp)
  replace S := S.out
  rw [HBS.out] at S
  exact S.tail
 have PL : H.plainL v = OL := by rw [← HOL.out]; unfold HeapM.plainL; simp [e0, e1, e2, e3, e5]
 have PLH := Lib.hid PL
 clear PL
 have f0 : (v.kind == 0) = false := by simp [e0]
 have f1 : (v.kind == 1) = false := by simp [e1]
 have f2 : (v.kind == 2) = false := by simp [e2]
 have f3 : (v.kind == 3) = false := by simp [e3]
 have f5 : (v.kind == 5) = false := by simp [e5]
 clear e0 e1 e2 e3 e5
 go_upto_region 14 with fail
 refine regionL (E := []) (base := bA) S.out ?_
 clear S
 refine qa ?_
 refine qc C0 ?_
 refine qk KO ?_
 refine qa ?_
 refine doneL (h := fun w6 S => ?_)
 replace S := Lib.hid S
 go_wp2
 refine bodyPost_ret (v := .string ⟨OL.toArray⟩) ?_ ?_ ?_
 ·
  simp [results, Tryz.results171, go_sem]
 ·
  rfl
 refine ⟨?_, ?_⟩
 ·
  rw [PLH.out]; try rfl
 replace S := S.out
 rw [HBS.out] at S
 exact S.tail
end
end Go.Proofs.YtijlebhoapdfnaaGreat
